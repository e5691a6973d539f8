/- Copies of headers, records, batches (slices.Clone, segment.copied): the walks. -/
import Derived.Test.YtdlnafhhkpklmaaGreatDoorY16
namespace Go.Proofs.YtdlnafhhkpklmaaGreatDoor
open Go.RowKit Go.Fm Go.BigFrame
set_option linter.unusedVariables false
set_option linter.unusedSimpArgs false
set_option maxRecDepth 100000
theorem list_of_lt {α : Type} {p : Nat → α → Prop} : ∀ {n : Nat}, (∀ i, i < n → ∃ x, p i x) → ∃ l : List α, l.length = n ∧ ∀ i x, l[i]? = some x → p i x
 | 0, _ => ⟨[], rfl, fun i x h => by simp at h⟩
 | n + 1, h => by
  obtain ⟨l, hl, hp⟩ := list_of_lt (n := n) fun i hi => h i (by omega)
  obtain ⟨x, hx⟩ := h n (by omega)
  refine ⟨l ++ [x], by simp [hl], fun i y hy => ?_⟩
  rcases Nat.lt_or_ge i n with h1 | h1
  ·rw [List.getElem?_append_left (by omega)] at hy
   exact hp i y hy
  ·rw [List.getElem?_append_right (by omega)] at hy
   have h2 := (List.getElem?_eq_some_iff.1 hy).1
   simp at h2
   have h3 : i = n := by omega
   subst h3
   rw [hl, Nat.sub_self] at hy
   simp at hy
   subst hy
   exact hx
theorem hds_none {K : Nat → Prop} {w : World} {n cap : Nat} {hs : List Hdr} (h : HdsR K w (.slice none n cap) hs) : hs = [] ∧ n = 0 := by
 obtain ⟨oa, cap', hv, h⟩ := h
 injection hv with e1 e2 e3
 subst e1
 cases hs with
 | nil => exact ⟨rfl, by simpa using e2⟩
 | cons x l =>
  obtain ⟨a, ha, -⟩ := h 0 x rfl
  cases ha
theorem recs_none {K : Nat → Prop} {w : World} {n cap : Nat} {hs : List Rec} (h : RecsR K w (.slice none n cap) hs) : hs = [] ∧ n = 0 := by
 obtain ⟨oa, cap', hv, h⟩ := h
 injection hv with e1 e2 e3
 subst e1
 cases hs with
 | nil => exact ⟨rfl, by simpa using e2⟩
 | cons x l =>
  obtain ⟨a, hv, ha, -⟩ := h 0 x rfl
  cases ha
theorem hds_nil {K : Nat → Prop} (w : World) (n : Nat) : HdsR K w (.slice none 0 n) [] := ⟨none, n, rfl, fun k h hk => by simp at hk⟩
theorem recs_nil {K : Nat → Prop} (w : World) (n : Nat) : RecsR K w (.slice none 0 n) [] := ⟨none, n, rfl, fun k h hk => by simp at hk⟩
theorem hds_one {K : Nat → Prop} {w : World} {v : Value} {hs : List Hdr} (h : HdsR K w v hs) : v.oneCell' = true := by
 obtain ⟨oa, cap, rfl, -⟩ := h; rfl
theorem recs_one {K : Nat → Prop} {w : World} {v : Value} {hs : List Rec} (h : RecsR K w v hs) : v.oneCell' = true := by
 obtain ⟨oa, cap, rfl, -⟩ := h; rfl
theorem hdr_cells_one (hs : List Hdr) : ∀ u ∈ hs.flatMap hdrCells, u.oneCell' = true := by
 intro u hu
 obtain ⟨x, -, hx⟩ := List.mem_flatMap.1 hu
 simp only [hdrCells, List.mem_cons, List.not_mem_nil, or_false] at hx
 rcases hx with rfl | rfl <;> rfl
def HdsPost (w : World) (hs : List Hdr) (e : Ending) (w' : World) : Prop := ∃ v, e = .returned v ∧ HdsR (fun b => w.heap.size ≤ b) w' v hs ∧ Fr (fun _ => False) w w'
def BatPost (w : World) (b : Bat) (e : Ending) (w' : World) : Prop := ∃ rv, e = .returned (batV b rv) ∧ RecsR (fun b => w.heap.size ≤ b) w' rv b.recs ∧ Fr (fun _ => False) w w'
/-- 'slices.Clone' of headers. -/
theorem hclone_walk (K : Nat → Prop) (hs : List Hdr) (v : Value) (w : World) (h : HdsR K w v hs) (hl : hs.length ≤ 1000) :
  Calls Tryz.prog 102 #[v] w (HdsPost w hs) := by
 obtain ⟨i, hi, hz, h1, h2⟩ := info_parts info55
 have hh := h
 obtain ⟨oa, cap, rfl, -⟩ := hh
 cases oa with
 | none =>
  obtain ⟨rfl, -⟩ := hds_none h
  have hnil : ∀ w, (binOp .eql 77 (.slice none 0 cap) (.slice none 0 0)).run Tryz.prog w = .ok (.bool true) w := fun w => Lib.run_eql_slice_nil (P := Tryz.prog) w 77 94 none 0 cap 0 0 Tryz.underlying77
  clear h
  go_enter Tryz.func102, Tryz.ntmps102
  go_wp2_with fail
  go_ret
  exact ⟨_, rfl, hds_nil _ _, Fr.same _⟩
 | some a =>
  have hnil : ∀ w, (binOp .eql 77 (.slice (some a) hs.length cap) (.slice none 0 0)).run Tryz.prog w = .ok (.bool false) w := fun w => Lib.run_eql_slice_nil (P := Tryz.prog) w 77 94 (some a) hs.length cap 0 0 Tryz.underlying77
  have H := Lib.hid h
  obtain ⟨-, hcells⟩ := hds_cells h
  have HC := Lib.hid hcells
  have hown : (w.alloc (.cells #[] 94)).ownsRow w.heap.size 94 2 (.slice (some ⟨w.heap.size, 0, none⟩) 0 0) 0 [] :=
   ⟨rfl, .inr ⟨w.heap.size, 0, #[], rfl, Nat.le_refl _, heap_alloc_self _ _, Nat.le_refl _, Nat.zero_le _, rfl, rfl⟩⟩
  have HO := Lib.hid hown
  have hf := (Fr.same w).alloc (.cells #[] 94)
  have HF := Lib.hid hf
  clear h hcells hown hf
  go_enter Tryz.func102, Tryz.ntmps102
  go_wp2_with (at_builtin; refine wpList_append_own2 _ rfl (.tmp 5) (.tmp 6) 77 rfl w.heap.size 94 i _ 2 32 Tryz.underlying77 hi hz h1 h2 rfl (by decide) _ 0 [] rfl HO.out a hs.length cap (hs.flatMap hdrCells) rfl (flat_len hdrCells 2 hdr_n hs) ?c1 (hdr_cells_one hs) ?c3 ?c4 HF.out.size ?_)
  case c1 => exact fun j u hj => HF.out.cel (HC.out j u hj)
  case c3 => unfold maxLen; omega
  case c4 => omega
  intro v' w' ho hg hb
  have hfr : Fr (fun _ => False) w w' := HF.out.grown hg fun k hk => .inr (by simp [Value.ownBlock] at hk; omega)
  have hr := hds_of_own ho rfl
  have HR := Lib.hid hr
  have HF2 := Lib.hid hfr
  clear ho hg hb hfr hr
  go_wp2_with fail
  go_ret
  exact ⟨_, rfl, HR.out.mono fun b hb _ => hb.1, HF2.out⟩
/-- The records of a slice with the cells of their headers. -/
theorem recs_zs {K : Nat → Prop} {w : World} {a : Addr} {n cap : Nat} {rs : List Rec} (h : RecsR K w (.slice (some a) n cap) rs) :
  n = rs.length ∧ ∃ zs : List (Rec × Value), zs.map (·.1) = rs ∧ ∀ k z, zs[k]? = some z → K a.block ∧ RecAt w (a.add (k * 7)) z.1 z.2 ∧ HdsR K w z.2 z.1.hs := by
 obtain ⟨oa, cap', hv, h⟩ := h
 injection hv with e1 e2 e3
 subst e1
 refine ⟨e2, ?_⟩
 obtain ⟨zs, hl, hz⟩ := list_of_lt (n := rs.length) (p := fun k (z : Rec × Value) => rs[k]? = some z.1 ∧ K a.block ∧ RecAt w (a.add (k * 7)) z.1 z.2 ∧ HdsR K w z.2 z.1.hs) fun i hi => by
  obtain ⟨r, hr⟩ := get_of_lt hi
  obtain ⟨a', hv, ha, hK, hc, hh⟩ := h i r hr
  injection ha with ha
  subst ha
  exact ⟨(r, hv), hr, hK, hc, hh⟩
 refine ⟨zs, ?_, fun k z hk => (hz k z hk).2⟩
 refine List.ext_getElem? fun i => ?_
 rw [List.getElem?_map]
 rcases Nat.lt_or_ge i rs.length with h1 | h1
 ·obtain ⟨z, hz1⟩ := get_of_lt (show i < zs.length by omega)
  rw [hz1, (hz i z hz1).1]
  rfl
 ·rw [List.getElem?_eq_none (by omega), List.getElem?_eq_none (by omega)]
  rfl
theorem rec_cells {w : World} {a : Addr} {zs : List (Rec × Value)} (h : ∀ k z, zs[k]? = some z → RecAt w (a.add (k * 7)) z.1 z.2) :
  ∀ j u, (zs.flatMap recPair)[j]? = some u → w.cell? (a.add j) = some u := by
 intro j u hu
 obtain ⟨z, hz, hx⟩ := flat_of recPair 7 (by omega) rec_n hu
 clear hu
 have hc := h _ z hz
 have hd := Nat.div_add_mod j 7
 have hm := Nat.mod_lt j (show 0 < 7 by omega)
 generalize j / 7 = q at *
 generalize j % 7 = m at *
 subst hd
 have e1 : 7 * q = q * 7 := Nat.mul_comm _ _
 rw [e1]
 have hadd : ∀ m, 0 < m → w.cell? (a.add (q * 7 + m)) = w.cell? ⟨(a.add (q * 7)).block, (a.add (q * 7)).off + m, none⟩ := fun m hm => by rw [add_add _ _ _ hm]
 match m, hm, hx with
 | 0, _, hx => injection hx with hx; subst hx; exact hc.c0
 | 1, _, hx => injection hx with hx; subst hx; rw [hadd 1 (by omega)]; exact hc.c1
 | 2, _, hx => injection hx with hx; subst hx; rw [hadd 2 (by omega)]; exact hc.c2
 | 3, _, hx => injection hx with hx; subst hx; rw [hadd 3 (by omega)]; exact hc.c3
 | 4, _, hx => injection hx with hx; subst hx; rw [hadd 4 (by omega)]; exact hc.c4
 | 5, _, hx => injection hx with hx; subst hx; rw [hadd 5 (by omega)]; exact hc.c5
 | 6, _, hx => injection hx with hx; subst hx; rw [hadd 6 (by omega)]; exact hc.c6
 | m + 7, hm, _ => omega
theorem rec_cells_one {zs : List (Rec × Value)} (h : ∀ (k : Nat) (z : Rec × Value), zs[k]? = some z → z.2.oneCell' = true) : ∀ u ∈ zs.flatMap recPair, u.oneCell' = true := by
 intro u hu
 obtain ⟨x, hx1, hx⟩ := List.mem_flatMap.1 hu
 obtain ⟨k, hk⟩ := List.getElem?_of_mem hx1
 have := h k x hk
 simp only [recPair, recCells, List.mem_cons, List.not_mem_nil, or_false] at hx
 rcases hx with rfl | rfl | rfl | rfl | rfl | rfl | rfl <;> first | rfl | exact this
/-- Records in a block of the call's own, the cells of their headers still the old ones. -/
structure RowAt (w : World) (g : Nat) (zs : List (Rec × Value)) : Prop where
 hb : ∃ cur, w.heap[g]? = some (.cells cur 79 (0, 0))
 at' : ∀ k z, zs[k]? = some z → RecAt w ⟨g, k * 7, none⟩ z.1 z.2
def RClonePost (w : World) (zs : List (Rec × Value)) (e : Ending) (w' : World) : Prop :=
 ∃ g cap, e = .returned (.slice (some ⟨g, 0, none⟩) zs.length cap) ∧ w.heap.size ≤ g ∧ g < w'.heap.size ∧ RowAt w' g zs ∧ Fr (fun _ => False) w w'
/-- 'slices.Clone' of records. -/
theorem rclone_walk (zs : List (Rec × Value)) (a : Addr) (cap : Nat) (w : World) (h : ∀ k z, zs[k]? = some z → RecAt w (a.add (k * 7)) z.1 z.2) (h1c : ∀ (k : Nat) (z : Rec × Value), zs[k]? = some z → z.2.oneCell' = true) (hl : zs.length ≤ 1000) :
  Calls Tryz.prog 114 #[.slice (some a) zs.length cap] w (RClonePost w zs) := by
 obtain ⟨i, hi, hz, h1, h2⟩ := info_parts info39
 have hnil : ∀ w, (binOp .eql 34 (.slice (some a) zs.length cap) (.slice none 0 0)).run Tryz.prog w = .ok (.bool false) w := fun w => Lib.run_eql_slice_nil (P := Tryz.prog) w 34 79 (some a) zs.length cap 0 0 Tryz.underlying34
 have HC := Lib.hid (rec_cells h)
 have hone := rec_cells_one h1c
 have hown : (w.alloc (.cells #[] 79)).ownsRow w.heap.size 79 7 (.slice (some ⟨w.heap.size, 0, none⟩) 0 0) 0 [] :=
  ⟨rfl, .inr ⟨w.heap.size, 0, #[], rfl, Nat.le_refl _, heap_alloc_self _ _, Nat.le_refl _, Nat.zero_le _, rfl, rfl⟩⟩
 have HO := Lib.hid hown
 have hf := (Fr.same w).alloc (.cells #[] 79)
 have HF := Lib.hid hf
 have HONE := Lib.hid hone
 clear h hown hf hone h1c
 go_enter Tryz.func114, Tryz.ntmps114
 go_wp2_with (at_builtin; refine wpList_append_own2 _ rfl (.tmp 5) (.tmp 6) 34 rfl w.heap.size 79 i _ 7 88 Tryz.underlying34 hi hz h1 h2 rfl (by decide) _ 0 [] rfl HO.out a zs.length cap (zs.flatMap recPair) rfl (flat_len recPair 7 rec_n zs) ?c1 HONE.out ?c3 ?c4 HF.out.size ?_)
 case c1 => exact fun j u hj => HF.out.cel (HC.out j u hj)
 case c3 => unfold maxLen; omega
 case c4 => omega
 intro v' w' ho hg hb
 have hfr : Fr (fun _ => False) w w' := HF.out.grown hg fun k hk => .inr (by simp [Value.ownBlock] at hk; omega)
 have hform : ∃ g cap, v' = .slice (some ⟨g, 0, none⟩) zs.length cap ∧ w.heap.size ≤ g ∧ g < w'.heap.size ∧ RowAt w' g zs := by
  have h9 := ho
  rcases h9.2 with ⟨rfl, -⟩ | ⟨g, cap', cur, rfl, hbg, hgg, -⟩
  ·rcases hb with h | h <;> simp [Value.ownBlock] at h
  ·refine ⟨g, cap', rfl, hbg, lt_of_heap hgg, ⟨cur, hgg⟩, fun k z hk => ?_⟩
   have hcell : ∀ j u, (zs.flatMap recPair)[j]? = some u → w'.cell? ⟨g, j, none⟩ = some u := fun j u hj => by
    have := ho.cells (g := g) rfl j u hj
    rw [add_lit] at this
    exact this
   have hget : ∀ j, j < 7 → (zs.flatMap recPair)[k * 7 + j]? = (recPair z)[j]? := fun j hj => flat_get recPair 7 rec_n hk hj
   exact ⟨hcell _ _ (hget 0 (by omega)), hcell _ _ (hget 1 (by omega)), hcell _ _ (hget 2 (by omega)), hcell _ _ (hget 3 (by omega)), hcell _ _ (hget 4 (by omega)), hcell _ _ (hget 5 (by omega)), hcell _ _ (hget 6 (by omega))⟩
 obtain ⟨g, cap', rfl, hg1, hg2, hrow⟩ := hform
 have HR := Lib.hid hrow
 have HF2 := Lib.hid hfr
 clear ho hg hb hfr hrow
 go_wp2_with fail
 go_ret
 exact ⟨g, cap', rfl, hg1, hg2, HR.out, HF2.out⟩
theorem rclone_nil (cap : Nat) (w : World) : Calls Tryz.prog 114 #[.slice none 0 cap] w fun e w' => e = .returned (.slice none 0 0) ∧ w = w' := by
 have hnil : ∀ w, (binOp .eql 34 (.slice none 0 cap) (.slice none 0 0)).run Tryz.prog w = .ok (.bool true) w := fun w => Lib.run_eql_slice_nil (P := Tryz.prog) w 34 79 none 0 cap 0 0 Tryz.underlying34
 go_enter Tryz.func114, Tryz.ntmps114
 go_wp2_with fail
 go_ret
 exact ⟨rfl, rfl⟩
theorem add_mul7 (g k : Nat) : (⟨g, 0, none⟩ : Addr).add (k * 7) = ⟨g, k * 7, none⟩ := add_lit g (k * 7)
theorem RowAt.set {w : World} {g : Nat} {zs : List (Rec × Value)} (h : RowAt w g zs) {k : Nat} {z : Rec × Value} (hz : zs[k]? = some z) (hv : Value) : RowAt (w.setCell ⟨g, k * 7 + 6, none⟩ hv) g (zs.set k (z.1, hv)) := by
 obtain ⟨⟨cur, hb⟩, h2⟩ := h
 refine ⟨⟨_, heap_setCell_self hb hv⟩, fun j y hj => ?_⟩
 have hlt := (List.getElem?_eq_some_iff.1 hz).1
 have ho : ∀ j' m, m < 7 → (j' ≠ k ∨ m ≠ 6) → (w.setCell ⟨g, k * 7 + 6, none⟩ hv).cell? ⟨g, j' * 7 + m, none⟩ = w.cell? ⟨g, j' * 7 + m, none⟩ := fun j' m hm hne =>
  World.cell?_setCell_other _ _ _ _ fun e => by
   injection e with _ e _
   omega
 by_cases e : j = k
 ·subst e
  rw [List.getElem?_set_self hlt] at hj
  injection hj with hj
  subst hj
  obtain ⟨c0, c1, c2, c3, c4, c5, c6⟩ := h2 j z hz
  exact ⟨(ho j 0 (by omega) (.inr (by omega))).trans c0, (ho j 1 (by omega) (.inr (by omega))).trans c1, (ho j 2 (by omega) (.inr (by omega))).trans c2, (ho j 3 (by omega) (.inr (by omega))).trans c3, (ho j 4 (by omega) (.inr (by omega))).trans c4, (ho j 5 (by omega) (.inr (by omega))).trans c5, World.cell?_setCell_same _ _ _ c6⟩
 ·rw [List.getElem?_set_ne (fun h => e h.symm)] at hj
  obtain ⟨c0, c1, c2, c3, c4, c5, c6⟩ := h2 j y hj
  exact ⟨(ho j 0 (by omega) (.inl e)).trans c0, (ho j 1 (by omega) (.inl e)).trans c1, (ho j 2 (by omega) (.inl e)).trans c2, (ho j 3 (by omega) (.inl e)).trans c3, (ho j 4 (by omega) (.inl e)).trans c4, (ho j 5 (by omega) (.inl e)).trans c5, (ho j 6 (by omega) (.inl e)).trans c6⟩
theorem RowAt.old {w w' : World} {g : Nat} {zs : List (Rec × Value)} (h : RowAt w g zs) (hf : Fr (fun _ => False) w w') : RowAt w' g zs := by
 obtain ⟨⟨cur, hb⟩, h2⟩ := h
 exact ⟨⟨cur, (hf.block _ (lt_of_heap hb) fun h => h).trans hb⟩, fun k z hz => (h2 k z hz).to (hf.block _ (lt_of_heap hb) fun h => h)⟩
/-- Records in a block of the call's own: of the first k the headers, too, are the call's own. -/
structure CopyAt (w W : World) (g k : Nat) (rs : List Rec) (zs : List (Rec × Value)) : Prop where
 row : RowAt W g zs
 recs : zs.map (·.1) = rs
 own : ∀ j z, zs[j]? = some z → j < k → HdsR (fun b => w.heap.size + 2 ≤ b ∧ b ≠ g) W z.2 z.1.hs
 old : ∀ j z, zs[j]? = some z → k ≤ j → HdsR (fun b => b < w.heap.size) w z.2 z.1.hs
theorem CopyAt.step {w W : World} {g k : Nat} {rs : List Rec} {zs : List (Rec × Value)} (h : CopyAt w W g k rs zs) (hg : w.heap.size ≤ g) {z : Rec × Value} (hz : zs[k]? = some z) {hv : Value} (hh : HdsR (fun b => w.heap.size + 2 ≤ b ∧ b ≠ g) W hv z.1.hs) :
  CopyAt w (W.setCell ⟨g, k * 7 + 6, none⟩ hv) g (k + 1) rs (zs.set k (z.1, hv)) := by
 have hfr : Fr (fun i => i = g) W (W.setCell ⟨g, k * 7 + 6, none⟩ hv) := Fr.setCell (S := fun i => i = g) (p := ⟨g, k * 7 + 6, none⟩) (Fr.refl _ _) (.inl rfl) _
 have hlt := (List.getElem?_eq_some_iff.1 hz).1
 refine ⟨h.row.set hz hv, ?_, fun j y hj hjk => ?_, fun j y hj hjk => ?_⟩
 ·rw [← h.recs]
  refine List.ext_getElem? fun i => ?_
  rw [List.getElem?_map, List.getElem?_map]
  by_cases e : i = k
  ·subst e
   rw [List.getElem?_set_self hlt, hz]
   rfl
  ·rw [List.getElem?_set_ne (fun h => e h.symm)]
 ·by_cases e : j = k
  ·subst e
   rw [List.getElem?_set_self hlt] at hj
   injection hj with hj
   subst hj
   exact hh.fr hfr fun b hb => hb.2
  ·rw [List.getElem?_set_ne (fun h => e h.symm)] at hj
   exact (h.own j y hj (by omega)).fr hfr fun b hb => hb.2
 ·rw [List.getElem?_set_ne (by omega)] at hj
  exact h.old j y hj (by omega)
theorem CopyAt.kept {w W W' : World} {g k : Nat} {rs : List Rec} {zs : List (Rec × Value)} (h : CopyAt w W g k rs zs) (hf : Fr (fun _ => False) W W') : CopyAt w W' g k rs zs :=
 ⟨h.row.old hf, h.recs, fun j y hj hjk => (h.own j y hj hjk).old hf, h.old⟩
theorem CopyAt.reads {w W : World} {g : Nat} {rs : List Rec} {zs : List (Rec × Value)} {k : Nat} (h : CopyAt w W g k rs zs) (hk : rs.length ≤ k) (hg : w.heap.size + 2 ≤ g) (cap : Nat) : RecsR (fun b => w.heap.size + 2 ≤ b) W (.slice (some ⟨g, 0, none⟩) rs.length cap) rs := by
 refine ⟨_, _, rfl, fun j r hj => ?_⟩
 have hj2 := hj
 rw [← h.recs, List.getElem?_map] at hj2
 obtain ⟨z, hz, rfl⟩ := Option.map_eq_some_iff.1 hj2
 have := (List.getElem?_eq_some_iff.1 hj).1
 exact ⟨⟨g, 0, none⟩, z.2, rfl, hg, by rw [add_mul7]; exact h.row.at' j z hz, (h.own j z hz (by omega)).mono fun b hb _ => hb.1⟩
def batBox (b : Bat) (v : Value) : Array Value := #[.int .i64 b.base, .int .i64 b.span, .int .i64 b.prod, .int .i64 b.epoch, .int .i64 b.seq, v]
set_option maxHeartbeats 8000000 in
/-- A batch whose records, and their headers, are the call's own. -/
theorem copied_walk (K : Nat → Prop) (b : Bat) (v : Value) (w : World) (h : RecsR K w v b.recs) (hl : b.recs.length ≤ 1000) (hs : ∀ r ∈ b.recs, r.hs.length ≤ 1000) :
  Calls Tryz.prog 85 #[batV b v] w (BatPost w b) := by
 have hh := h
 obtain ⟨oa, cap, rfl, -⟩ := hh
 unfold batV
 cases oa with
 | none =>
  obtain ⟨e0, -⟩ := recs_none h
  have E0 := Lib.hid e0
  have e1 : b.recs.length = 0 := by rw [e0]; rfl
  have hf : ∀ c1 c2 : Array Value, Fr (fun _ => False) w ((w.alloc (.cells c1 36)).alloc (.cells c2 36)) := fun _ _ => ((Fr.same w).alloc _).alloc _
  rw [e1]
  have HF := Lib.hid hf
  clear hf e0 e1 h
  go_enter Tryz.func85, Tryz.ntmps85
  go_wp2_with fail
  refine (rclone_nil cap _).mono ?_
  rintro e w' ⟨rfl, rfl⟩
  go_wp2_with fail
  refine wp_loop_rounds 1 ?_
  rw [rounds_succ]
  go_wp2_with fail
  refine bodyPost_ret (v := batV b (.slice none 0 0)) (by simp [results, Tryz.f85, go_sem, batV]) rfl ⟨_, rfl, ?_, ?_⟩
  ·rw [E0.out]; exact recs_nil _ _
  ·exact HF.out _ _
 | some a =>
  obtain ⟨-, zs, hzs, hz⟩ := recs_zs h
  have hlen : zs.length = b.recs.length := by rw [← hzs, List.length_map]
  have hf : Fr (fun _ => False) w ((w.alloc (.cells (batBox b (.slice (some a) b.recs.length cap)) 36)).alloc (.cells (batBox ⟨0, 0, 0, 0, 0, []⟩ (.slice none 0 0)) 36)) := ((Fr.same w).alloc _).alloc _
  have o1 : ((w.alloc (.cells (batBox b (.slice (some a) b.recs.length cap)) 36)).alloc (.cells (batBox ⟨0, 0, 0, 0, 0, []⟩ (.slice none 0 0)) 36)).heap[w.heap.size]? = some (.cells (batBox b (.slice (some a) b.recs.length cap)) 36 (0, 0)) := (heap_alloc_lt _ (by simp)).trans (heap_alloc_self _ _)
  have o2 : ((w.alloc (.cells (batBox b (.slice (some a) b.recs.length cap)) 36)).alloc (.cells (batBox ⟨0, 0, 0, 0, 0, []⟩ (.slice none 0 0)) 36)).heap[w.heap.size + 1]? = some (.cells (batBox ⟨0, 0, 0, 0, 0, []⟩ (.slice none 0 0)) 36 (0, 0)) := by
   have := heap_alloc_self (w.alloc (.cells (batBox b (.slice (some a) b.recs.length cap)) 36)) (.cells (batBox ⟨0, 0, 0, 0, 0, []⟩ (.slice none 0 0)) 36)
   simpa using this
  have hcl := rclone_walk zs a cap ((w.alloc (.cells (batBox b (.slice (some a) b.recs.length cap)) 36)).alloc (.cells (batBox ⟨0, 0, 0, 0, 0, []⟩ (.slice none 0 0)) 36)) (fun k z hk => (hz k z hk).2.1.to (hf.block _ (hz k z hk).2.1.lt fun h => h)) (fun k z hk => hds_one (hz k z hk).2.2) (by omega)
  rw [hlen] at hcl
  have hold : ∀ j z, zs[j]? = some z → 0 ≤ j → HdsR (fun b => b < w.heap.size) w z.2 z.1.hs := fun j z hj _ => (hz j z hj).2.2.mono fun b _ hb => hb
  have hsz : w.heap.size + 2 = ((w.alloc (.cells (batBox b (.slice (some a) b.recs.length cap)) 36)).alloc (.cells (batBox ⟨0, 0, 0, 0, 0, []⟩ (.slice none 0 0)) 36)).heap.size := by simp
  have HF := Lib.hid hf
  have O1 := Lib.hid o1
  have O2 := Lib.hid o2
  have HC := Lib.hid hcl
  have HZ := Lib.hid hzs
  have HL := Lib.hid hlen
  have HO := Lib.hid hold
  have HSZ := Lib.hid hsz
  have HS := Lib.hid hs
  clear hf o1 o2 hcl hzs hlen hold hsz h hz hs
  unfold batBox at HF O1 O2 HC HSZ
  go_enter Tryz.func85, Tryz.ntmps85
  go_wp2_with fail
  refine HC.out.mono ?_
  rintro e w1 ⟨g, cap', rfl, hg1, hg2, hrow, hf⟩
  rw [HL.out]
  rw [← HSZ.out] at hg1
  have F1 := HF.out.tr hf
  have b1 := (hf.block _ (lt_of_heap O1.out) fun h => h).trans O1.out
  have b2 := (hf.block _ (lt_of_heap O2.out) fun h => h).trans O2.out
  have f1 := fz_of b1 5
  have d1 : w1.cell? ⟨w.heap.size, 5, none⟩ = some (.slice (some a) b.recs.length cap) := (cell_of b1 5).trans rfl
  have hst : Fr (fun i => i = w.heap.size) w1 (w1.setCell ⟨w.heap.size, 5, none⟩ (.slice (some ⟨g, 0, none⟩) b.recs.length cap')) := Fr.setCell (S := fun i => i = w.heap.size) (p := ⟨w.heap.size, 5, none⟩) (Fr.refl _ _) (.inl rfl) _
  have F2 := Lib.hid (F1.trans hst fun i e => .inr (Nat.le_of_eq e.symm))
  have B1 := Lib.hid (heap_setCell_self (o := 5) b1 (.slice (some ⟨g, 0, none⟩) b.recs.length cap'))
  have B2 := Lib.hid ((hst.block _ (lt_of_heap b2) fun e => by omega).trans b2)
  have hcp : CopyAt w (w1.setCell ⟨w.heap.size, 5, none⟩ (.slice (some ⟨g, 0, none⟩) b.recs.length cap')) g 0 b.recs zs := by
   obtain ⟨⟨cur, hb⟩, h2⟩ := hrow
   have hk := hst.block g hg2 fun e => by omega
   exact ⟨⟨⟨cur, hk.trans hb⟩, fun k z hz => (h2 k z hz).to hk⟩, HZ.out, fun j z _ h => by omega, HO.out⟩
  have CP := Lib.hid hcp
  have HLT := Lib.hid hg2
  have HG := Lib.hid hg1
  have hgt : g < (w1.setCell ⟨w.heap.size, 5, none⟩ (.slice (some ⟨g, 0, none⟩) b.recs.length cap')).heap.size := by simpa [World.setCell] using hg2
  have HGT := Lib.hid hgt
  clear hf hrow F1 hst hcp HC HF O1 O2 b1 b2 HLT hg2 hg1 hgt HO HZ HL HSZ
  go_wp2_with fail
  generalize w1.setCell ⟨w.heap.size, 5, none⟩ (.slice (some ⟨g, 0, none⟩) b.recs.length cap') = w2 at *
  clear d1 f1
  generalize hA : (⟨g, 0, none⟩ : Addr) = A at *
  have HA := Lib.hid hA
  clear hA
  go_loopw [12] (fun i wr => ∃ (k : Nat) (zs' : List (Rec × Value)), i = .int .i64 k ∧ k ≤ b.recs.length ∧ CopyAt w wr g k b.recs zs' ∧ wr.heap[w.heap.size]? = some (.cells (batBox b (.slice (some A) b.recs.length cap')) 36 (0, 0)) ∧ wr.heap[w.heap.size + 1]? = some (.cells (batBox ⟨0, 0, 0, 0, 0, []⟩ (.slice none 0 0)) 36 (0, 0)) ∧ g < wr.heap.size ∧ Fr (fun _ => False) w wr) (fun i _ => b.recs.length - (intOf i).toNat)
  case atStart => exact ⟨0, zs, rfl, Nat.zero_le _, CP.out, B1.out, B2.out, HGT.out, F2.out⟩
  case round =>
   obtain ⟨k, zs', rfl, hk, hcp, hb1, hb2, hgt, hf⟩ := hrel
   clear CP B1 B2 F2 HGT
   have CP := Lib.hid hcp
   have B1 := Lib.hid hb1
   have B2 := Lib.hid hb2
   have HGT := Lib.hid hgt
   have F := Lib.hid hf
   have hlen : zs'.length = b.recs.length := by rw [← hcp.recs, List.length_map]
   clear hcp hb1 hb2 hgt hf
   rcases Nat.lt_or_ge k b.recs.length with hlt | hge
   ·obtain ⟨⟨r, v0⟩, hz⟩ := get_of_lt (show k < zs'.length by omega)
    have hzr : r ∈ b.recs := by
     rw [← CP.out.recs]
     exact List.mem_map.2 ⟨(r, v0), List.mem_of_getElem? hz, rfl⟩
    have hhs := HS.out r hzr
    have hat : RecAt wr (A.add (k * 7)) r v0 := by
     rw [← HA.out, add_mul7]
     exact CP.out.row.at' k _ hz
    have hold : HdsR _ wr v0 r.hs := (CP.out.old k _ hz (Nat.le_refl _)).old F.out
    have hh := hold
    obtain ⟨oh, hcap, rfl, -⟩ := hh
    obtain ⟨c0, c1, c2, c3, c4, c5, c6⟩ := hat
    have HZ := Lib.hid hz
    have HOLD := Lib.hid hold
    have hfa := (Fr.same wr).alloc (.cells (recCells r (.slice oh r.hs.length hcap)).toArray 79)
    have h6 : (wr.alloc (.cells (recCells r (.slice oh r.hs.length hcap)).toArray 79)).cell? ⟨wr.heap.size, 6, none⟩ = some (.slice oh r.hs.length hcap) := cell_alloc_new wr _ 79 6
    have h5 : (wr.alloc (.cells (recCells r (.slice oh r.hs.length hcap)).toArray 79)).cell? ⟨w.heap.size, 5, none⟩ = some (.slice (some A) b.recs.length cap') := hfa.cel ((cell_of B1.out 5).trans rfl)
    have H6 := Lib.hid h6
    have H5 := Lib.hid h5
    have FA := Lib.hid hfa
    clear hz hold hfa h6 h5 hzr hlen
    unfold recCells at H6 H5 FA
    go_wp2_with fail
    generalize wr.alloc (.cells #[.int .i64 r.at', .int .i64 r.tm, .bool r.bare, .string r.key, .bool r.gone, .string r.val, .slice oh r.hs.length hcap] 79) = W at *
    clear c0 c1 c2 c3 c4 c5 c6
    have x1 : ∀ y : Lcl.InS (fun w' => Fr (fun _ => False) W w'), y.w.cell? ⟨w.heap.size, 5, none⟩ = some (.slice (some A) b.recs.length cap') := fun y => y.h.cel H5.out
    have x2 : ∀ y : Lcl.InS (fun w' => Fr (fun _ => False) W w'), y.w.cell? ⟨wr.heap.size, 6, none⟩ = some (.slice oh r.hs.length hcap) := fun y => y.h.cel H6.out
    refine Lcl.wp_region_calm (by kernel_rfl) [(true, [0, 2, 3]), (false, [1, 4])] #[0, 1, 0, 0, 8, 24, 63, 127, 255] [0, 1, 2, 3, 4, 5] 4 #[true, true, true, true, true, false, false, false, false] (by kernel_rfl) (by kernel_rfl) (by kernel_rfl) (fun w' => Fr (fun _ => False) W w') (Fr.same W).drew (fun d c a v w h => by cases d <;> exact h) ?_
    simp only [Lcl.opsOf, List.map_cons, List.map_nil, List.getElem?_toArray, List.getElem?_cons_succ, List.getElem?_cons_zero, Option.getD_some]
    refine Lcl.wpCalm_t ?_
    repeat (go_big_quiet_step (rfl))
    refine wpQuiet_nil ?_
    refine Lcl.wpCalm_f ?_
    repeat (go_big_quiet_step (rfl))
    refine wpQuiet_nil ?_
    refine Lcl.wpCalm_nil ?_
    clear x1 x2
    have FW := Lib.hid (FA.out.drew)
    refine Lcl.wpG_one 5 rfl (by kernel_rfl) ?_
    go_wp2_with fail
    refine (hclone_walk _ r.hs _ _ (HOLD.out.old FW.out) hhs).mono ?_
    rintro e w3 ⟨hv, rfl, hr, hf3⟩
    have F3 := Lib.hid hf3
    have hh := hr
    obtain ⟨oh', hcap', rfl, -⟩ := hh
    have HR := Lib.hid hr
    clear hf3 hr
    go_wp2_with fail
    refine ⟨fun _ h => (h : Fr _ _ _).tr F3.out, ?_⟩
    have FR := Lib.hid (FW.out.tr F3.out)
    have hcp := CP.out.kept FR.out
    have hat : RecAt w3 (A.add (k * 7)) r (.slice oh r.hs.length hcap) := by
     rw [← HA.out, add_mul7]
     exact hcp.row.at' k _ HZ.out
    have c6 := hat.c6
    have hfz : w3.frozen? ⟨(A.add (k * 7)).block, (A.add (k * 7)).off + 6, none⟩ = false := by
     obtain ⟨⟨cur, hb⟩, -⟩ := hcp.row
     rw [← HA.out, lit_off]
     exact fz_of hb _
    have hadr : (⟨(A.add (k * 7)).block, (A.add (k * 7)).off + 6, none⟩ : Addr) = ⟨g, k * 7 + 6, none⟩ := by rw [← HA.out, lit_off]
    have hh : HdsR (fun b => w.heap.size + 2 ≤ b ∧ b ≠ g) w3 (.slice oh' r.hs.length hcap') r.hs := HR.out.mono fun b hb _ => by
     have h1 := F.out.size
     have h2 := FW.out.size
     have h3 := HGT.out
     have h4 := lt_of_heap B2.out
     exact ⟨by omega, by omega⟩
    have hstep := hcp.step (by have := HG.out; omega) HZ.out hh
    have hfs : Fr (fun i => i = g) w3 (w3.setCell ⟨g, k * 7 + 6, none⟩ (.slice oh' r.hs.length hcap')) := Fr.setCell (S := fun i => i = g) (p := ⟨g, k * 7 + 6, none⟩) (Fr.refl _ _) (.inl rfl) _
    have b1 := (FR.out.block _ (lt_of_heap B1.out) fun h => h).trans B1.out
    have b2 := (FR.out.block _ (lt_of_heap B2.out) fun h => h).trans B2.out
    have d1 := Lib.hid ((hfs.block _ (lt_of_heap b1) fun e => by have := HG.out; omega).trans b1)
    have d2 := Lib.hid ((hfs.block _ (lt_of_heap b2) fun e => by have := HG.out; omega).trans b2)
    have d3 := Lib.hid ((F.out.tr FR.out).trans hfs fun i e => .inr (by have := HG.out; omega))
    have d4 := Lib.hid (Nat.lt_of_lt_of_le HGT.out (Nat.le_trans FR.out.size hfs.size))
    have d5 := Lib.hid hstep
    have HAD := Lib.hid hadr
    clear hcp hat hadr hh hstep hfs b1 b2
    refine Lcl.wpG_run [6, 7, 8] _ _ _ (by kernel_rfl) ?_
    simp only [List.map_cons, List.map_nil, List.getElem?_toArray, List.getElem?_cons_succ, List.getElem?_cons_zero, Option.getD_some]
    go_wp2_with fail
    go_roundw
    case rel => exact ⟨k + 1, _, by go_num, by omega, by rw [HAD.out]; exact d5.out, by rw [HAD.out]; exact d1.out, by rw [HAD.out]; exact d2.out, by rw [HAD.out]; exact d4.out, by rw [HAD.out]; exact d3.out⟩
    case measure => simp [intOf]; omega
   ·have c1 : ∀ j, wr.cell? ⟨w.heap.size, j, none⟩ = (#[.int .i64 b.base, .int .i64 b.span, .int .i64 b.prod, .int .i64 b.epoch, .int .i64 b.seq, .slice (some A) b.recs.length cap'] : Array Value)[j]? := fun j => cell_of B1.out j
    have c10 := c1 0
    have c11 := c1 1
    have c12 := c1 2
    have c13 := c1 3
    have c14 := c1 4
    have c15 := c1 5
    simp only [List.getElem?_toArray, List.getElem?_cons_succ, List.getElem?_cons_zero] at c10 c11 c12 c13 c14 c15
    have hlast := CP.out.reads hge HG.out cap'
    rw [HA.out] at hlast
    have HLA := Lib.hid hlast
    clear c1 hlast
    unfold batBox at *
    go_wp2_with (with_reducible refine wpList_store_all rfl 36 (.tmp 2) (.tmp 26) rfl (w.heap.size + 1) rfl 36 #[.int .i64 0, .int .i64 0, .int .i64 0, .int .i64 0, .int .i64 0, .slice none 0 0] (.agg #[.int .i64 b.base, .int .i64 b.span, .int .i64 b.prod, .int .i64 b.epoch, .int .i64 b.seq, .slice (some A) b.recs.length cap']) rfl B2.out rfl (by kernel_rfl) rfl ?_)
    intro w6 hb6 hg6
    have R6 : RecsR (fun b => w.heap.size ≤ b) w6 (.slice (some A) b.recs.length cap') b.recs := by
     exact (HLA.out.fr (S := fun i => i = w.heap.size + 1) (Fr.grown (Fr.refl _ _) hg6 fun k e => by cases e; exact .inl rfl) fun i hi e => by omega).mono fun i hi _ => by omega
    have F6 := Lib.hid (F.out.grown hg6 fun k e => by cases e; exact .inr (Nat.le_succ _))
    have R6 := Lib.hid R6
    have HB6 := Lib.hid hb6
    clear hb6 hg6 c10 c11 c12 c13 c14 c15
    have d0 : w6.cell? ⟨w.heap.size + 1, 0, none⟩ = some (.int .i64 b.base) := (cell_of HB6.out 0).trans rfl
    have d1 : w6.cell? ⟨w.heap.size + 1, 1, none⟩ = some (.int .i64 b.span) := (cell_of HB6.out 1).trans rfl
    have d2 : w6.cell? ⟨w.heap.size + 1, 2, none⟩ = some (.int .i64 b.prod) := (cell_of HB6.out 2).trans rfl
    have d3 : w6.cell? ⟨w.heap.size + 1, 3, none⟩ = some (.int .i64 b.epoch) := (cell_of HB6.out 3).trans rfl
    have d4 : w6.cell? ⟨w.heap.size + 1, 4, none⟩ = some (.int .i64 b.seq) := (cell_of HB6.out 4).trans rfl
    have d5 : w6.cell? ⟨w.heap.size + 1, 5, none⟩ = some (.slice (some A) b.recs.length cap') := (cell_of HB6.out 5).trans rfl
    go_wp2_with fail
    refine bodyPost_ret (v := batV b (.slice (some A) b.recs.length cap')) (by simp [results, Tryz.f85, go_sem, batV, d0, d1, d2, d3, d4, d5]) rfl ⟨_, rfl, R6.out, F6.out⟩
end Go.Proofs.YtdlnafhhkpklmaaGreatDoor
