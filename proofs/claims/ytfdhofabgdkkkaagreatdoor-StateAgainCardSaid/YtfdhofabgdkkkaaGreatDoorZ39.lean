/- Copies of headers, records, batches (slices.Clone, segment.copied): the walks. -/
import Derived.Test.YtfdhofabgdkkkaaGreatDoorZ30
namespace Go.Proofs.YtfdhofabgdkkkaaGreatDoor
open Go.RowKit Go.Fm Go.BigFrame
set_option linter.unusedVariables false
set_option linter.unusedSimpArgs false
set_option maxRecDepth 100000
theorem list_of_lt {α : Type} {p : Nat → α → Prop} : ∀ {n : Nat}, (∀ i, i < n → ∃ x, p i x) → ∃ l : List α, l.length = n ∧ ∀ i x, l[i]? = some x → p i x
 | 0, _ => ⟨[], rfl, fun i x h => by simp at h⟩
 | n + 1, h => by
  obtain ⟨l, hl, hp⟩ := list_of_lt (n := n) fun i hi => h i (by omega)
  obtain ⟨x, hx⟩ := h n (by omega)
  refine ⟨l ++ [x], by simp [hl], fun i y hy => ?_⟩
  rcases Nat.lt_or_ge i n with h1 | h1
  ·rw [List.getElem?_append_left (by omega)] at hy
   exact hp i y hy
  ·rw [List.getElem?_append_right (by omega)] at hy
   have h2 := (List.getElem?_eq_some_iff.1 hy).1
   simp at h2
   have h3 : i = n := by omega
   subst h3
   rw [hl, Nat.sub_self] at hy
   simp at hy
   subst hy
   exact hx
theorem hds_none {K : Nat → Prop} {w : World} {n cap : Nat} {hs : List Hdr} (h : HdsR K w (.slice none n cap) hs) : hs = [] ∧ n = 0 := by
 obtain ⟨oa, cap', hv, h⟩ := h
 injection hv with e1 e2 e3
 subst e1
 cases hs with
 | nil => exact ⟨rfl, by simpa using e2⟩
 | cons x l =>
  obtain ⟨a, ha, -⟩ := h 0 x rfl
  cases ha
theorem hds_nil {K : Nat → Prop} (w : World) (n : Nat) : HdsR K w (.slice none 0 n) [] := ⟨none, n, rfl, fun k h hk => by simp at hk⟩
theorem recs_nil {K : Nat → Prop} (w : World) (n : Nat) : RecsR K w (.slice none 0 n) [] := ⟨none, n, rfl, fun k h hk => by simp at hk⟩
theorem hdr_cells_one (hs : List Hdr) : ∀ u ∈ hs.flatMap hdrCells, u.oneCell' = true := by
 intro u hu
 obtain ⟨x, -, hx⟩ := List.mem_flatMap.1 hu
 simp only [hdrCells, List.mem_cons, List.not_mem_nil, or_false] at hx
 rcases hx with rfl | rfl <;> rfl
def HdsPost (w : World) (hs : List Hdr) (e : Ending) (w' : World) : Prop := ∃ v, e = .returned v ∧ HdsR (fun b => w.heap.size ≤ b) w' v hs ∧ Fr (fun _ => False) w w'
/-- 'slices.Clone' of headers. -/
theorem hclone_walk (K : Nat → Prop) (hs : List Hdr) (v : Value) (w : World) (h : HdsR K w v hs) (hl : hs.length ≤ 1000) :
  Calls Tryz.prog 49 #[v] w (HdsPost w hs) := by
 obtain ⟨i, hi, hz, h1, h2⟩ := info_parts info55
 have hh := h
 obtain ⟨oa, cap, rfl, -⟩ := hh
 cases oa with
 | none =>
  obtain ⟨rfl, -⟩ := hds_none h
  have hnil : ∀ w, (binOp .eql 93 (.slice none 0 cap) (.slice none 0 0)).run Tryz.prog w = .ok (.bool true) w := fun w => Lib.run_eql_slice_nil (P := Tryz.prog) w 93 97 none 0 cap 0 0 Tryz.underlying93
  clear h
  go_enter Tryz.func49, Tryz.ntmps49
  go_wp2_with fail
  go_ret
  exact ⟨_, rfl, hds_nil _ _, Fr.same _⟩
 | some a =>
  have hnil : ∀ w, (binOp .eql 93 (.slice (some a) hs.length cap) (.slice none 0 0)).run Tryz.prog w = .ok (.bool false) w := fun w => Lib.run_eql_slice_nil (P := Tryz.prog) w 93 97 (some a) hs.length cap 0 0 Tryz.underlying93
  have H := Lib.hid h
  obtain ⟨-, hcells⟩ := hds_cells h
  have HC := Lib.hid hcells
  have hown : (w.alloc (.cells #[] 97)).ownsRow w.heap.size 97 2 (.slice (some ⟨w.heap.size, 0, none⟩) 0 0) 0 [] :=
   ⟨rfl, .inr ⟨w.heap.size, 0, #[], rfl, Nat.le_refl _, heap_alloc_self _ _, Nat.le_refl _, Nat.zero_le _, rfl, rfl⟩⟩
  have HO := Lib.hid hown
  have hf := (Fr.same w).alloc (.cells #[] 97)
  have HF := Lib.hid hf
  clear h hcells hown hf
  go_enter Tryz.func49, Tryz.ntmps49
  go_wp2_with (at_builtin; refine wpList_append_own2 _ rfl (.tmp 5) (.tmp 6) 93 rfl w.heap.size 97 i _ 2 32 Tryz.underlying93 hi hz h1 h2 rfl (by decide) _ 0 [] rfl HO.out a hs.length cap (hs.flatMap hdrCells) rfl (flat_len hdrCells 2 hdr_n hs) ?c1 (hdr_cells_one hs) ?c3 ?c4 HF.out.size ?_)
  case c1 => exact fun j u hj => HF.out.cel (HC.out j u hj)
  case c3 => unfold maxLen; omega
  case c4 => omega
  intro v' w' ho hg hb
  have hfr : Fr (fun _ => False) w w' := HF.out.grown hg fun k hk => .inr (by simp [Value.ownBlock] at hk; omega)
  have hr := hds_of_own ho rfl
  have HR := Lib.hid hr
  have HF2 := Lib.hid hfr
  clear ho hg hb hfr hr
  go_wp2_with fail
  go_ret
  exact ⟨_, rfl, HR.out.mono fun b hb _ => hb.1, HF2.out⟩
end Go.Proofs.YtfdhofabgdkkkaaGreatDoor
