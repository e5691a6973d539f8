/- The document's table: Get, ahead, cut, Forget, Drop: the walks. -/
import Derived.Test.YtdgdhegbcjimbaaD2
import Derived.Deep.Onto
namespace Go.Proofs.Ytdgdhegbcjimbaa
open Go.RowKit Go.Fm Go.BigFrame
set_option linter.unusedVariables false
set_option linter.unusedSimpArgs false

theorem rtget_walk (k : Key) (B kb : Nat) (v : Value) (room : Int) (L : List Row) (w : World) (h : RTbl w B kb v room L) :
    Calls Try.prog 30 #[.pointer (some ⟨kb, 0, none⟩), .string k.g, .agg #[.string k.t, .int .i64 k.i]] w (GetPost L k w) := by
  obtain ⟨oa, cap, rfl⟩ := h.slice
  have hf0 := (Fr.same w).alloc (.cells #[.string k.t, .int .i64 k.i] 29)
  have H := Lib.hid (h.old hf0)
  have F0 := Lib.hid hf0
  have hlen := h.len
  have hc := fidx_cases L k
  unfold GetPost
  clear h hf0
  rcases hc with ⟨h1, h2⟩ | ⟨j, a, h1, h2, h3⟩
  · rw [h1]
    go_enter Try.func30, Try.ntmps30
    go_wp2_with fail
    refine (find_walk k B kb _ room L _ H.out).mono ?_
    rintro e w2 ⟨rfl, hf2⟩
    rw [h2]
    go_wp2_with fail
    go_ret2
    exact ⟨rfl, F0.out.tr hf2⟩
  · rw [h3]
    go_enter Try.func30, Try.ntmps30
    go_wp2_with fail
    refine (find_walk k B kb _ room L _ H.out).mono ?_
    rintro e w2 ⟨rfl, hf2⟩
    rw [h1]
    have H2 := H.out.old hf2
    have e1 := (cell_of H2.cells 1).trans rfl
    simp at e1
    have hlt := (List.getElem?_eq_some_iff.1 h2).1
    obtain ⟨g, rfl, -, -, c0, c1, c2, c3⟩ := H2.at h2
    dsimp only at c3
    clear h1 h2 h3 c0 c1 c2
    go_wp2_with fail
    go_ret2
    exact ⟨rfl, F0.out.tr hf2⟩

def aheadB (x k : Key) : Bool := if x.g = k.g then (if x.t = k.t then decide (x.i < k.i) else Op.bytesLess x.t.toList k.t.toList) else Op.bytesLess x.g.toList k.g.toList
theorem aheadB_iff (x k : Key) : aheadB x k = true ↔ ltK x k := by
  unfold aheadB ltK
  by_cases h1 : x.g = k.g
  · rw [if_pos h1]
    have n1 : ¬ ltB x.g k.g := by rw [h1]; exact ltB_irrefl _
    by_cases h2 : x.t = k.t
    · rw [if_pos h2]
      have n2 : ¬ ltB x.t k.t := by rw [h2]; exact ltB_irrefl _
      simp [h1, h2, n1, n2]
      constructor
      · intro h; exact .inr (.inr h)
      · rintro (h | h | h)
        · rw [h1] at n1; exact absurd h n1
        · rw [h2] at n2; exact absurd h n2
        · exact h
    · rw [if_neg h2, less_ltB]
      simp [h1, h2]
      intro h; rw [h1] at n1; exact absurd h n1
  · rw [if_neg h1, less_ltB]
    simp [h1]
theorem ahead_walk (r : Row) (k : Key) (w : World) : Calls Try.prog 50 #[.agg #[.string r.1.g, .string r.1.t, .int .i64 r.1.i, .int .i64 r.2], .string k.g, .agg #[.string k.t, .int .i64 k.i]] w fun e w' => e = .returned (.bool (aheadB r.1 k)) ∧ Fr (fun _ => False) w w' := by
  have hf := ((Fr.same w).alloc (.cells #[.string r.1.g, .string r.1.t, .int .i64 r.1.i, .int .i64 r.2] 77)).alloc (.cells #[.string k.t, .int .i64 k.i] 29)
  have F := Lib.hid hf
  clear hf
  unfold aheadB
  by_cases h1 : r.1.g = k.g
  · have q1 : (r.1.g.toList == k.g.toList) = true := by rw [strEq]; simp [h1]
    rw [if_pos h1]
    by_cases h2 : r.1.t = k.t
    · have q2 : (r.1.t.toList == k.t.toList) = true := by rw [strEq]; simp [h2]
      rw [if_pos h2]
      clear h1 h2
      go_enter Try.func50, Try.ntmps50
      go_wp2_with fail
      go_ret
      exact ⟨rfl, F.out⟩
    · have q2 : (r.1.t.toList == k.t.toList) = false := by rw [strEq]; simp [h2]
      rw [if_neg h2]
      clear h1 h2
      go_enter Try.func50, Try.ntmps50
      go_wp2_with fail
      go_ret
      exact ⟨rfl, F.out⟩
  · have q1 : (r.1.g.toList == k.g.toList) = false := by rw [strEq]; simp [h1]
    rw [if_neg h1]
    clear h1
    go_enter Try.func50, Try.ntmps50
    go_wp2_with fail
    go_ret
    exact ⟨rfl, F.out⟩

theorem rowC_take (L : List Row) (i : Nat) : (L.take i).flatMap rowC = (L.flatMap rowC).take (i * 4) := by
  induction L generalizing i with
  | nil => simp
  | cons x r ih =>
    cases i with
    | zero => simp
    | succ i =>
      have e : (rowC x).take ((i + 1) * 4) = rowC x := List.take_of_length_le (by rw [rowC_len]; omega)
      have e2 : (i + 1) * 4 - 4 = i * 4 := by omega
      rw [List.take_succ_cons, List.flatMap_cons, List.flatMap_cons, ih, List.take_append, rowC_len, e, e2]
theorem rowC_drop (L : List Row) (i : Nat) : (L.drop i).flatMap rowC = (L.flatMap rowC).drop (i * 4) := by
  induction L generalizing i with
  | nil => simp
  | cons x r ih =>
    cases i with
    | zero => simp
    | succ i =>
      have e : (rowC x).drop ((i + 1) * 4) = [] := List.drop_eq_nil_of_le (by rw [rowC_len]; omega)
      have e2 : (i + 1) * 4 - 4 = i * 4 := by omega
      rw [List.drop_succ_cons, List.flatMap_cons, ih, List.drop_append, rowC_len, e, e2, List.nil_append]
theorem rowC_one (L : List Row) : ∀ u ∈ L.flatMap rowC, u.oneCell' = true := by
  intro u hu
  obtain ⟨r, -, hr⟩ := List.mem_flatMap.1 hu
  simp [rowC] at hr
  rcases hr with rfl | rfl | rfl | rfl <;> rfl
theorem info77 : (Try.prog.info? 77).map (fun i => (i.zero, i.size, i.bytes)) = some (some (.agg #[.string ⟨#[]⟩, .string ⟨#[]⟩, .int .i64 0, .int .i64 0]), 4, 48) := by kernel_rfl
/-- A part of the rows, as a slice of them lays it. -/
theorem RTbl.part {w : World} {B kb : Nat} {g n cap : Nat} {room : Int} {L : List Row} (h : RTbl w B kb (.slice (some ⟨g, 0, none⟩) n cap) room L) (i m : Nat) :
    ∀ j u, (((L.drop i).take m).flatMap rowC)[j]? = some u → w.cell? (((⟨g, 0, none⟩ : Addr).add (i * 4)).add j) = some u := by
  intro j u hu
  rw [rowC_take, rowC_drop] at hu
  have hj := (List.getElem?_eq_some_iff.1 hu).1
  rw [List.getElem?_take_of_lt (by simp at hj; omega), List.getElem?_drop] at hu
  have := h.rows.cells (g := g) rfl (i * 4 + j) u hu
  rw [add_lit] at this ⊢
  have e : ((⟨g, i * 4, none⟩ : Addr).add j) = ⟨g, i * 4 + j, none⟩ := by
    unfold Addr.add
    split <;> simp_all
  rw [e]; exact this
/-- The rows are there; a new block's have taken their place. -/
def CutPost (B kb : Nat) (room : Int) (L : List Row) (w : World) (e : Ending) (w' : World) : Prop :=
  e = .returned (.tuple #[]) ∧ ∃ v', RTbl w' B kb v' room L ∧ Fr (fun i => i = kb) w w'
theorem cut_done {i B kb : Nat} {v v2 : Value} {n2 : Nat} {xs : List Value} {room : Int} {L : List Row} {w w2 : World} (h : RTbl w B kb v room L) (hf : Fr (fun _ => False) w w2) (hk : w2.heap[kb]? = some (.cells #[.int .i64 room, v] 51 (0, 0)))
    (ho : w2.ownsRow w.heap.size 77 4 v2 n2 xs) (hn : n2 = i + (L.length - (i + 1))) (hx : xs = (L.take i).flatMap rowC ++ (L.drop (i + 1)).flatMap rowC) (hi : i < L.length) (hB : B ≤ w.heap.size) :
    CutPost B kb room (L.take i ++ L.drop (i + 1)) w (.returned (.tuple #[])) (w2.setCell ⟨kb, 1, none⟩ v2) := by
  subst hn hx
  have hkl := lt_of_heap h.cells
  have hl : (L.take i ++ L.drop (i + 1)).length = i + (L.length - (i + 1)) := by rw [List.length_append, List.length_take, List.length_drop]; omega
  refine ⟨rfl, _, ⟨by rw [heap_setCell_self hk]; rfl, ?_, by rw [hl]; have := h.len; omega, h.base⟩, Fr.setCell (S := fun i => i = kb) (hf.mono fun i e => e.elim) (.inl rfl) _⟩
  rw [hl, List.flatMap_append]
  exact own_eq (ho.mono hB) fun k hk' => heap_setCell_ne _ (by have := (own_lt ho hk').1; omega) _
set_option maxRecDepth 100000 in
set_option maxHeartbeats 8000000 in
theorem cut_walk (i : Nat) (B kb : Nat) (v : Value) (room : Int) (L : List Row) (w : World) (h : RTbl w B kb v room L) (hi : i < L.length) (hB : B ≤ w.heap.size) :
    Calls Try.prog 51 #[.pointer (some ⟨kb, 0, none⟩), .int .i64 i] w (CutPost B kb room (L.take i ++ L.drop (i + 1)) w) := by
  obtain ⟨i0, hi0, hz0, hz1, hz2⟩ := info_parts info77
  have HI := Lib.hid hi0
  obtain ⟨oa, cap, rfl⟩ := h.slice
  obtain ⟨x, hx⟩ := get_of_lt hi
  obtain ⟨g, rfl, hgB, hgk, -⟩ := h.at hx
  have hlen := h.len
  have hcap : L.length ≤ cap := by
    rcases h.rows.2 with ⟨h0, -⟩ | ⟨g', cap', cur, hv, -, -, h1, -⟩
    · cases h0
    · injection hv with e1 e2 e3; subst e3; exact h1
  have H := Lib.hid h
  have e1 := (cell_of h.cells 1).trans rfl
  simp at e1
  have P1 := Lib.hid (h.part 0 i)
  have P2 := Lib.hid (h.part (i + 1) (L.length - (i + 1)))
  clear h hx hi0
  go_enter Try.func51, Try.ntmps51
  go_wp2_with (at_builtin; refine wpList_append_own2 _ rfl (.tmp 5) (.tmp 11) 49 rfl w.heap.size 77 i0 _ 4 48 Try.underlying49 HI.out hz0 hz1 hz2 rfl (by decide) (.slice none 0 0) 0 [] rfl (World.ownsRow_nil _ _ _ _) ⟨g, 0, none⟩ i cap ((L.take i).flatMap rowC) rfl ?c1 ?c2 ?c3 ?c4 ?c5 ?c6 ?_)
  case c1 => rw [rowC_flat, List.length_take]; omega
  case c2 => intro j u hu; have := P1.out j u hu; simpa [Addr.add] using this
  case c3 => exact rowC_one _
  case c4 => unfold maxLen; omega
  case c5 => omega
  case c6 => exact Nat.le_refl _
  intro v1 w1 ho1 hg1 hb1
  have F1 : Hid (Fr (fun _ => False) w w1) := Lib.hid ((Fr.same w).grown hg1 fun k hk => by cases hk)
  obtain ⟨o1, c1, hv1, -⟩ := own_slice ho1
  subst hv1
  have O1 := Lib.hid ho1
  have H1 := Lib.hid (H.out.old F1.out)
  have e1 := (cell_of H1.out.cells 1).trans rfl
  simp at e1
  have P3 := Lib.hid (fun j u h => F1.out.cel (P2.out j u h))
  clear ho1 hg1 hb1 P1 P2
  by_cases hce : i + 1 = cap
  · subst hce
    go_wp2_with (at_builtin; refine wpList_append_own2 _ rfl (.tmp 14) (.tmp 21) 49 rfl w.heap.size 77 i0 _ 4 48 Try.underlying49 HI.out hz0 hz1 hz2 rfl (by decide) (.slice o1 i c1) i _ rfl O1.out ⟨g, 0, none⟩ 0 0 [] rfl ?d1 ?d2 ?d3 ?d4 ?d5 ?d6 ?_)
    case d1 => rfl
    case d2 => intro j u hu; simp at hu
    case d3 => intro u hu; simp at hu
    case d4 => unfold maxLen; omega
    case d5 => omega
    case d6 => exact F1.out.size
    intro v2 w2 ho2 hg2 hb2
    have F2 : Hid (Fr (fun _ => False) w w2) := Lib.hid (F1.out.grown hg2 fun k hk => .inr (own_lt O1.out hk).1)
    obtain ⟨o2, c2, hv2, -⟩ := own_slice ho2
    subst hv2
    have O2 := Lib.hid ho2
    have hkb := (F2.out.block kb (lt_of_heap H.out.cells) fun h => h).trans H.out.cells
    have HKB := Lib.hid hkb
    have e2 := (cell_of hkb 1).trans rfl
    have z2 := fz_of hkb 1
    simp at e2
    clear ho2 hg2 hb2 hkb e1
    go_wp2_with fail
    refine bodyPost_ret (results_none rfl _ _ _) rfl ?_
    exact cut_done H.out F2.out HKB.out O2.out (by omega) (by rw [List.drop_eq_nil_of_le (by omega)]; simp) hi hB
  · have hce2 : ¬ cap = i + 1 := fun h => hce h.symm
    have hce3 : ¬ cap - (i + 1) = 0 := by omega
    go_wp2_with (at_builtin; refine wpList_append_own2 _ rfl (.tmp 14) (.tmp 21) 49 rfl w.heap.size 77 i0 _ 4 48 Try.underlying49 HI.out hz0 hz1 hz2 rfl (by decide) (.slice o1 i c1) i _ rfl O1.out ⟨g, (i + 1) * 4, none⟩ (L.length - (i + 1)) (cap - (i + 1)) ((L.drop (i + 1)).flatMap rowC) rfl ?e1 ?e2 ?e3 ?e4 ?e5 ?e6 ?_)
    case e1 => rw [rowC_flat, List.length_drop]
    case e2 => intro j u hu; have := P3.out j u (by rw [List.take_of_length_le (by rw [List.length_drop]; exact Nat.le_refl _)]; exact hu); rw [add_lit] at this; exact this
    case e3 => exact rowC_one _
    case e4 => unfold maxLen; omega
    case e5 => omega
    case e6 => exact F1.out.size
    intro v2 w2 ho2 hg2 hb2
    have F2 : Hid (Fr (fun _ => False) w w2) := Lib.hid (F1.out.grown hg2 fun k hk => .inr (own_lt O1.out hk).1)
    obtain ⟨o2, c2, hv2, -⟩ := own_slice ho2
    subst hv2
    have O2 := Lib.hid ho2
    have hkb := (F2.out.block kb (lt_of_heap H.out.cells) fun h => h).trans H.out.cells
    have HKB := Lib.hid hkb
    have e2 := (cell_of hkb 1).trans rfl
    have z2 := fz_of hkb 1
    simp at e2
    clear ho2 hg2 hb2 hkb e1
    go_wp2_with fail
    refine bodyPost_ret (results_none rfl _ _ _) rfl ?_
    exact cut_done H.out F2.out HKB.out O2.out rfl rfl hi hB
end Go.Proofs.Ytdgdhegbcjimbaa
