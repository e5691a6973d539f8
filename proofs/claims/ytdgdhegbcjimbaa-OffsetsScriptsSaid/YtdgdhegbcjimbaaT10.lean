/- Keys of a table, sorted: the walk. -/
import Derived.Test.YtdgdhegbcjimbaaT9
import Derived.Sort.LotA
import Derived.Shelf.SlSortCmp.WholeK
import Derived.Shelf.SlSortCmp.NoneTotal
namespace Go.Proofs.Ytdgdhegbcjimbaa
open Go.RowKit Go.Fm Go.BigFrame Go.Maps Go.Shelf
set_option linter.unusedVariables false
set_option linter.unusedSimpArgs false

/-! The order. -/
def ltB (a b : ByteArray) : Prop := a.data.toList < b.data.toList
theorem ltB_irrefl (a : ByteArray) : ¬ ltB a a := List.lt_irrefl _
theorem ltB_trans {a b c : ByteArray} (h : ltB a b) (k : ltB b c) : ltB a c := List.lt_trans h k
theorem ltB_tri (a b : ByteArray) : a = b ∨ ltB a b ∨ ltB b a := by
  by_cases h1 : ltB a b
  · exact .inr (.inl h1)
  · by_cases h2 : ltB b a
    · exact .inr (.inr h2)
    · refine .inl ?_
      have := List.le_antisymm (List.not_lt.1 h2) (List.not_lt.1 h1)
      cases a; cases b
      simpa using congrArg List.toArray this
def ltK (x y : Key) : Prop := ltB x.g y.g ∨ (x.g = y.g ∧ (ltB x.t y.t ∨ (x.t = y.t ∧ x.i < y.i)))
theorem ltK_irrefl (x : Key) : ¬ ltK x x := by
  rintro (h | ⟨-, h | ⟨-, h⟩⟩)
  · exact ltB_irrefl _ h
  · exact ltB_irrefl _ h
  · omega
theorem ltK_trans {x y z : Key} (h : ltK x y) (k : ltK y z) : ltK x z := by
  rcases h with h | ⟨e, h⟩
  · rcases k with k | ⟨e2, k⟩
    · exact .inl (ltB_trans h k)
    · exact .inl (e2 ▸ h)
  · rcases k with k | ⟨e2, k⟩
    · exact .inl (e ▸ k)
    · refine .inr ⟨e.trans e2, ?_⟩
      rcases h with h | ⟨e3, h⟩
      · rcases k with k | ⟨e4, k⟩
        · exact .inl (ltB_trans h k)
        · exact .inl (e4 ▸ h)
      · rcases k with k | ⟨e4, k⟩
        · exact .inl (e3 ▸ k)
        · exact .inr ⟨e3.trans e4, by omega⟩
theorem ltK_tri (x y : Key) : x = y ∨ ltK x y ∨ ltK y x := by
  rcases ltB_tri x.g y.g with e | h | h
  · rcases ltB_tri x.t y.t with e2 | h | h
    · rcases Int.lt_trichotomy x.i y.i with h | e3 | h
      · exact .inr (.inl (.inr ⟨e, .inr ⟨e2, h⟩⟩))
      · refine .inl ?_
        cases x; cases y; simp_all
      · exact .inr (.inr (.inr ⟨e.symm, .inr ⟨e2.symm, h⟩⟩))
    · exact .inr (.inl (.inr ⟨e, .inl h⟩))
    · exact .inr (.inr (.inr ⟨e.symm, .inl h⟩))
  · exact .inr (.inl (.inl h))
  · exact .inr (.inr (.inl h))
theorem less_ltB (a b : ByteArray) : (Op.bytesLess a.toList b.toList = true) ↔ ltB a b := by
  rw [Go.Proofs.bytesLess_eq, Lib.toList_data, Lib.toList_data]
  simp [ltB]
theorem cmpS_spec (a b : ByteArray) : (cmpS a b = -1 ∧ ltB a b) ∨ (cmpS a b = 0 ∧ a = b) ∨ (cmpS a b = 1 ∧ ltB b a) := by
  unfold cmpS
  by_cases h : ltB a b
  · rw [if_pos ((less_ltB a b).2 h)]; exact .inl ⟨rfl, h⟩
  · rw [if_neg (fun e => h ((less_ltB a b).1 e)), strEq]
    by_cases e : a = b
    · rw [if_pos (by simp [e])]; exact .inr (.inl ⟨rfl, e⟩)
    · rw [if_neg (by simp [e])]
      rcases ltB_tri a b with h1 | h1 | h1
      · exact absurd h1 e
      · exact absurd h1 h
      · exact .inr (.inr ⟨rfl, h1⟩)
theorem cmpK_lt (x y : Key) : cmpK x y < 0 ↔ ltK x y := by
  unfold cmpK orI ltK
  rcases cmpS_spec x.g y.g with ⟨e, h⟩ | ⟨e, h⟩ | ⟨e, h⟩
  · rw [e]; simp [h]
  · rw [e, if_neg (by simp)]
    have hn : ¬ ltB x.g y.g := by rw [h]; exact ltB_irrefl _
    rcases cmpS_spec x.t y.t with ⟨e2, h2⟩ | ⟨e2, h2⟩ | ⟨e2, h2⟩
    · rw [e2]; simp [h2, h]
    · rw [e2, if_neg (by simp)]
      have hn2 : ¬ ltB x.t y.t := by rw [h2]; exact ltB_irrefl _
      unfold cmpI
      constructor
      · intro hh
        refine .inr ⟨h, .inr ⟨h2, ?_⟩⟩
        split at hh
        · assumption
        · split at hh <;> omega
      · rintro (k | ⟨-, k | ⟨-, k⟩⟩)
        · exact absurd k hn
        · exact absurd k hn2
        · rw [if_pos k]; decide
    · rw [e2, if_pos (by simp)]
      constructor
      · intro hh; omega
      · rintro (k | ⟨-, k | ⟨k, -⟩⟩)
        · exact absurd k hn
        · exact absurd (ltB_trans k h2) (ltB_irrefl _)
        · rw [k] at h2; exact absurd h2 (ltB_irrefl _)
  · rw [e, if_pos (by simp)]
    constructor
    · intro hh; omega
    · rintro (k | ⟨k, -⟩)
      · exact absurd (ltB_trans k h) (ltB_irrefl _)
      · rw [k] at h; exact absurd h (ltB_irrefl _)
theorem swoK : Go.Sort.SWO (ltOf cmpK) where
  irrefl x := by simp only [ltOf, decide_eq_false_iff_not, cmpK_lt]; exact ltK_irrefl x
  trans x y z h1 h2 := by simp only [ltOf, decide_eq_true_eq, cmpK_lt] at *; exact ltK_trans h1 h2
  ntrans x y z h1 h2 := by
    simp only [ltOf, decide_eq_false_iff_not, cmpK_lt] at *
    intro h
    rcases ltK_tri x y with rfl | k | k
    · exact h2 h
    · exact h1 k
    · exact h2 (ltK_trans k h)

/-! The rows of keys in memory. -/
instance : Inhabited Key := ⟨⟨ByteArray.empty, ByteArray.empty, 0⟩⟩
theorem flat_get : ∀ (ss : List Key) (t : Nat), t < ss.length * 3 → (ss.flatMap keyC)[t]? = some ((keyC (ss.toArray[t / 3]!))[t % 3]!)
  | [], t, h => by simp at h
  | x :: r, t, h => by
    rw [List.flatMap_cons]
    by_cases h3 : t < 3
    · rw [List.getElem?_append_left (by rw [keyC_len]; exact h3)]
      have e1 : t / 3 = 0 := by omega
      have e2 : t % 3 = t := by omega
      rw [e1, e2]
      have : t = 0 ∨ t = 1 ∨ t = 2 := by omega
      rcases this with rfl | rfl | rfl <;> simp [keyC]
    · obtain ⟨t, rfl⟩ : ∃ u, t = u + 3 := ⟨t - 3, by omega⟩
      rw [List.getElem?_append_right (by rw [keyC_len]; omega), keyC_len, Nat.add_sub_cancel]
      have e1 : (t + 3) / 3 = t / 3 + 1 := by omega
      have e2 : (t + 3) % 3 = t % 3 := by omega
      rw [flat_get r t (by simp at h; omega), e1, e2]
      simp
/-- Where a slice's keys lie. -/
def KeysR (base : Nat) (w : World) (oa : Option Addr) (ss : List Key) : Prop :=
  ∀ k x, ss[k]? = some x → ∃ g, oa = some ⟨g, 0, none⟩ ∧ base ≤ g ∧ w.cell? ⟨g, k * 3, none⟩ = some (.string x.g) ∧ w.cell? ⟨g, k * 3 + 1, none⟩ = some (.string x.t) ∧ w.cell? ⟨g, k * 3 + 2, none⟩ = some (.int .i64 x.i)
def Rising (ss : List Key) : Prop := ss.Pairwise ltK
def KeysPost (L : List Row) (w : World) (e : Ending) (w' : World) : Prop :=
  ∃ oa cap ss, e = .returned (.slice oa ss.length cap) ∧ ss.Perm (L.map (·.1)) ∧ Rising ss ∧ KeysR w.heap.size w' oa ss ∧ Fr (fun _ => False) w w'
theorem holds_of {w : World} {base g cap : Nat} {ss : List Key} (h : w.ownsRow base 36 3 (.slice (some ⟨g, 0, none⟩) ss.length cap) ss.length (ss.flatMap keyC)) : Go.Sort.HoldsK keyC 3 w g 0 ss.toArray ∧ g < w.heap.size ∧ base ≤ g := by
  rcases h.2 with ⟨h0, _⟩ | ⟨g', cap', cur, hv, hb, hg, h1, h2, h3, h4⟩
  · cases h0
  · cases hv
    refine ⟨fun j hj => ?_, lt_of_heap hg, hb⟩
    rw [Go.Sort.size_flatK] at hj
    simp at hj
    have hk : cur[j]? = some ((keyC (ss.toArray[j / 3]!))[j % 3]!) := by
      have := flat_get ss j hj
      rw [← h4, List.getElem?_take_of_lt (by omega)] at this
      simpa using this
    rw [Go.Sort.get_flatK _ _ _ _ (by simpa using hj)]
    simp only [Nat.zero_add, id_eq]
    exact ⟨(cell_of hg j).trans hk, fz_of hg j⟩
theorem fr_sort (w : World) (g n : Nat) (d : Array Key) (os : Array Obj) : Fr (fun i => i = g) w (Go.Proofs.sortWorldK keyC 3 w g 0 n d os) := by
  refine ⟨rfl, rfl, rfl, Go.Proofs.size_sortWorldK_c keyC 3 w g 0 n d os, fun k hk hn => ?_⟩
  show ((w.heap.modify g _) ++ os)[k]? = w.heap[k]?
  rw [Array.getElem?_append_left (by rw [Array.size_modify]; exact hk), Array.getElem?_modify, if_neg (fun e => hn e.symm)]
def SortPost (g : Nat) (ss : List Key) (w : World) (e : Ending) (w' : World) : Prop :=
  e = .returned (.tuple #[]) ∧ ∃ ss', ss'.Perm ss ∧ Rising ss' ∧ KeysR g w' (some ⟨g, 0, none⟩) ss' ∧ Fr (fun i => i = g) w w'
theorem sort_walk (g cap : Nat) (ss : List Key) (w : World) (hH : Go.Sort.HoldsK keyC 3 w g 0 ss.toArray) (hg : g < w.heap.size) (hn : ss.length ≤ 10000) (hnd : ss.Nodup) :
    Calls Try.prog 41 #[.slice (some ⟨g, 0, none⟩) ss.length cap, .func (.func 26) #[] #[]] w (SortPost g ss w) := by
  have eg : ∀ args w, (callFunc 26 args).run Try.prog w = .ok (.enter 26 args) w := enters_of Try.func26 (by kernel_rfl) rfl
  have h := AnyQ.slices_SortFunc sortKey 3 Try.isAgg36 Try.sizeOf36 keyC keyC_len (fun x v hv => by simp [keyC] at hv; rcases hv with rfl | rfl | rfl <;> rfl) cmpK swoK 26 #[] g 0 cap ss.toArray w eg (fun _ _ _ _ x y => compare_walk x y _) hH hg (by simp; omega)
  refine h.mono ?_
  rintro e w' ⟨rfl, d', n, os, ⟨h1, h2, h3⟩, hs, rfl⟩
  have hsz : d'.toList.length = ss.length := by simpa using h1
  have hperm : d'.toList.Perm ss := by
    have e1 : d'.extract 0 ss.toArray.size = d' := by rw [← h1]; simp
    have e2 : ss.toArray.extract 0 ss.toArray.size = ss.toArray := by simp
    rw [e1, e2] at h3
    exact h3
  refine ⟨rfl, d'.toList, hperm, ?_, ?_, fr_sort w g n d' os⟩
  · have hnd' : d'.toList.Nodup := hperm.nodup_iff.2 hnd
    unfold Rising
    rw [List.pairwise_iff_getElem]
    intro i j hi hj hij
    have := hs i j (Nat.zero_le _) hij (by simpa [hsz] using hj)
    simp only [ltOf, decide_eq_false_iff_not, cmpK_lt] at this
    have e1 : d'[i]! = d'.toList[i] := by rw [getElem!_pos d' i (by simpa using hi)]; simp
    have e2 : d'[j]! = d'.toList[j] := by rw [getElem!_pos d' j (by simpa using hj)]; simp
    rw [e1, e2] at this
    rcases ltK_tri d'.toList[i] d'.toList[j] with h | h | h
    · exact absurd h (fun h => by
        have := (List.nodup_iff_pairwise_ne.1 hnd')
        rw [List.pairwise_iff_getElem] at this
        exact this i j hi hj hij h)
    · exact h
    · exact absurd h this
  · intro k x hx
    have hk : k < d'.size := by simpa using (List.getElem?_eq_some_iff.1 hx).1
    have hH' := Go.Proofs.holdsK_sortWorldK_c keyC 3 w g 0 ss.toArray d' n os hH hg (by simpa using hsz)
    have ex : d'[k]! = x := by
      rw [getElem!_pos d' k hk]
      have := (List.getElem?_eq_some_iff.1 hx).2
      simpa using this
    refine ⟨g, rfl, Nat.le_refl _, ?_, ?_, ?_⟩
    · have := (Go.Sort.HoldsK.cell hH' (i := k) (c := 0) hk (by omega)).1
      rw [ex] at this; simpa [keyC] using this
    · have := (Go.Sort.HoldsK.cell hH' (i := k) (c := 1) hk (by omega)).1
      rw [ex] at this; simpa [keyC] using this
    · have := (Go.Sort.HoldsK.cell hH' (i := k) (c := 2) hk (by omega)).1
      rw [ex] at this; simpa [keyC] using this
theorem KeysR.mono {b b' : Nat} {w : World} {oa : Option Addr} {ss : List Key} (h : KeysR b w oa ss) (hb : b' ≤ b) : KeysR b' w oa ss := fun k x hx => by
  obtain ⟨g, h1, h2, h3⟩ := h k x hx
  exact ⟨g, h1, Nat.le_trans hb h2, h3⟩
theorem KeysR.fr {b : Nat} {w w' : World} {oa : Option Addr} {ss : List Key} {S : Nat → Prop} (h : KeysR b w oa ss) (hf : Fr S w w') (hS : ∀ g, b ≤ g → ¬ S g) : KeysR b w' oa ss := fun k x hx => by
  obtain ⟨g, h1, h2, h3, h4, h5⟩ := h k x hx
  exact ⟨g, h1, h2, hf.cell h3 (hS g h2), hf.cell h4 (hS g h2), hf.cell h5 (hS g h2)⟩
theorem KeysR.old {b : Nat} {w w' : World} {oa : Option Addr} {ss : List Key} (h : KeysR b w oa ss) (hf : Fr (fun _ => False) w w') : KeysR b w' oa ss := h.fr hf fun _ _ h => h
set_option maxHeartbeats 4000000 in
theorem sorted_walk (Bm b : Nat) (L : List Row) (w : World) (hBm : Bm < w.heap.size) (hm : w.cell? ⟨Bm, 0, none⟩ = some (.map (some b))) (ht : TabM w b L) (hlen : L.length ≤ 10000) :
    Calls Try.prog 24 #[.func (.func 42) #[] #[.pointer (some ⟨Bm, 0, none⟩)], .func (.func 26) #[] #[]] w (KeysPost L w) := by
  have hcall := collect_walk Bm b L w hBm hm ht hlen
  have HC := Lib.hid hcall
  have HT := Lib.hid ht
  clear hcall hm ht
  go_enter Try.func24, Try.ntmps24
  go_wp2_with fail
  refine HC.out.mono ?_
  rintro e w1 ⟨v, ss, rfl, h1, h2, h3, h4⟩
  have hl : ss.length ≤ 10000 := by rw [h1.length_eq]; simpa using hlen
  have hnd : ss.Nodup := h1.nodup_iff.2 HT.out.1.nodup
  have hf1 : Fr (fun _ => False) w w1 := Fr.of_below h4 (Nat.le_refl _)
  have H1 := Lib.hid h1
  have HF1 := Lib.hid hf1
  by_cases hnil : ss = []
  · have hv := h3.2 hnil
    subst hv
    subst hnil
    clear h1 h2 h3 h4 hf1
    go_wp2_with fail
    refine (AnyF.slices_SortFunc_none sortKey none 0 _ _).mono ?_
    rintro e w2 ⟨rfl, rfl⟩
    go_wp2_with fail
    go_ret
    exact ⟨none, 0, [], rfl, H1.out, List.Pairwise.nil, fun k x hx => (by simp at hx), HF1.out⟩
  · rcases h2.2 with ⟨-, h0⟩ | ⟨g, cap, cur, rfl, -⟩
    · exact absurd (List.length_eq_zero_iff.1 h0) hnil
    · obtain ⟨hH, hg, hb⟩ := holds_of h2
      have hs := sort_walk g cap ss w1 hH hg hl hnd
      have HS := Lib.hid hs
      clear h1 h2 h3 h4 hf1 hs hH
      go_wp2_with fail
      refine HS.out.mono ?_
      rintro e w2 ⟨rfl, ss', h1, h2, h3, h4⟩
      have hlen' : ss.length = ss'.length := h1.length_eq.symm
      have K := Lib.hid (show KeysPost L w (.returned (.slice (some ⟨g, 0, none⟩) ss.length cap)) w2 from ⟨some ⟨g, 0, none⟩, cap, ss', by rw [hlen'], h1.trans H1.out, h2, h3.mono hb, HF1.out.trans h4 fun i e => .inr (by cases e; exact hb)⟩)
      clear h1 h2 h3 h4 hlen'
      go_wp2_with fail
      go_ret
      exact K.out
set_option maxHeartbeats 4000000 in
theorem keys_walk (tb mb : Nat) (room : Int) (L : List Row) (w : World) (h : Tbl w tb mb room L) : Calls Try.prog 14 #[.pointer (some ⟨tb, 0, none⟩)] w (KeysPost L w) := by
  have hlen : L.length ≤ 10000 := by have := h.len; have := h.room2; omega
  have c1 := cell_of h.cells 1
  have hm := h.map
  have HF := Lib.hid ((Fr.same w).alloc (.cells #[.map (some mb)] 56))
  have HM := Lib.hid (hm.fr ((Fr.same w).alloc (.cells #[.map (some mb)] 56)) fun h => h)
  have HC := Lib.hid (cell_alloc_new w #[.map (some mb)] 56 0)
  clear hm h
  go_enter Try.func14, Try.ntmps14
  go_wp2_with fail
  refine (keysSeq_walk mb w).mono ?_
  rintro e w1 ⟨rfl, rfl⟩
  go_wp2_with fail
  refine (sorted_walk w.heap.size mb L _ (by simp) (HC.out.trans rfl) HM.out hlen).mono ?_
  rintro e w2 ⟨oa, cap, ss, rfl, h1, h2, h3, h4⟩
  have K := Lib.hid (show KeysPost L w (.returned (.slice oa ss.length cap)) w2 from ⟨oa, cap, ss, rfl, h1, h2, h3.mono (by simp), HF.out.tr h4⟩)
  clear h1 h2 h3 h4
  go_wp2_with fail
  go_ret
  exact K.out
end Go.Proofs.Ytdgdhegbcjimbaa
