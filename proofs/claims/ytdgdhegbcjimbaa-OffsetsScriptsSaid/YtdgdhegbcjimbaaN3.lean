/- The document's rows and a table's are the same, the document's in their order: plain laws. -/
import Derived.Test.YtdgdhegbcjimbaaD7
namespace Go.Proofs.Ytdgdhegbcjimbaa
open Go.RowKit Go.Fm Go.BigFrame
set_option linter.unusedVariables false
set_option linter.unusedSimpArgs false

/-- A table's rows M, the document's rows L. -/
structure Like (M L : List Row) : Prop where
  perm : L.Perm M
  rise : Rising (L.map (·.1))
theorem rising_nodup {ss : List Key} (h : Rising ss) : ss.Nodup := by
  rw [List.nodup_iff_pairwise_ne]
  exact h.imp (fun {a b} (h : ltK a b) (e : a = b) => by subst e; exact ltK_irrefl a h)
theorem Like.nodup {M L : List Row} (h : Like M L) : (M.map (·.1)).Nodup := (h.perm.map _).nodup_iff.1 (rising_nodup h.rise)
theorem Like.get {M L : List Row} (h : Like M L) (k : Key) : getL L k = getL M k := (getL_perm (rising_nodup h.rise) h.perm k).symm
theorem Like.len {M L : List Row} (h : Like M L) : L.length = M.length := h.perm.length_eq
theorem Like.nil : Like [] [] := ⟨List.Perm.refl _, List.Pairwise.nil⟩
theorem Like.code {M L : List Row} (h : Like M L) (room : Int) (k : Key) (a : Int) : commitE room L k a = commitE room M k a := by
  unfold commitE; rw [h.get k, h.len]
theorem take_map_set {L : List Row} {j : Nat} {k : Key} {a a' : Int} (h : L[j]? = some (k, a)) : (L.set j (k, a')).map (·.1) = L.map (·.1) := by
  obtain ⟨h1, h2⟩ := List.getElem?_eq_some_iff.1 h
  apply List.ext_getElem?
  intro i
  simp only [List.getElem?_map, List.getElem?_set]
  by_cases hi : j = i
  · subst hi
    simp [h1, h2]
  · simp [hi]
theorem getL_set {L : List Row} {j : Nat} {k k' : Key} {a a' : Int} (hn : (L.map (·.1)).Nodup) (h : L[j]? = some (k, a)) : getL (L.set j (k, a')) k' = if k' = k then some a' else getL L k' := by
  have hn' : ((L.set j (k, a')).map (·.1)).Nodup := by rw [take_map_set h]; exact hn
  have hlt := (List.getElem?_eq_some_iff.1 h).1
  by_cases e : k' = k
  · subst e
    rw [if_pos rfl]
    exact getL_mem hn' (List.mem_of_getElem? (i := j) (by rw [List.getElem?_set_self hlt]))
  · rw [if_neg e]
    cases hg : getL L k' with
    | some b =>
      refine getL_mem hn' ?_
      obtain ⟨i, hi⟩ := List.getElem?_of_mem (getL_some hg)
      refine List.mem_of_getElem? (i := i) ?_
      rw [List.getElem?_set_ne]
      · exact hi
      · rintro rfl; rw [h] at hi; injection hi with hi; injection hi with hi _; exact e hi.symm
    | none =>
      cases hg' : getL (L.set j (k, a')) k' with
      | none => rfl
      | some b =>
        obtain ⟨i, hi⟩ := List.getElem?_of_mem (getL_some hg')
        by_cases hij : j = i
        · subst hij
          rw [List.getElem?_set_self hlt] at hi
          injection hi with hi; injection hi with hi _; exact absurd hi.symm e
        · rw [List.getElem?_set_ne hij] at hi
          exact absurd rfl (getL_none hg _ (List.mem_of_getElem? hi))
theorem while_rise {L : List Row} {k : Key} (h : Rising (L.map (·.1))) : (∀ r ∈ L.takeWhile (fun r => aheadB r.1 k), ltK r.1 k) ∧ (∀ r ∈ L.dropWhile (fun r => aheadB r.1 k), ¬ ltK r.1 k) := by
  induction L with
  | nil => simp
  | cons x r ih =>
    unfold Rising at h
    rw [List.map_cons, List.pairwise_cons] at h
    obtain ⟨i1, i2⟩ := ih h.2
    by_cases hx : aheadB x.1 k = true
    · rw [List.takeWhile_cons, List.dropWhile_cons, if_pos hx, if_pos hx]
      refine ⟨fun y hy => ?_, i2⟩
      rcases List.mem_cons.1 hy with rfl | hy
      · exact (aheadB_iff _ _).1 hx
      · exact i1 y hy
    · rw [List.takeWhile_cons, List.dropWhile_cons, if_neg hx, if_neg hx]
      refine ⟨by simp, fun y hy hlt => ?_⟩
      have hx2 : ¬ ltK x.1 k := fun h => hx ((aheadB_iff _ _).2 h)
      rcases List.mem_cons.1 hy with rfl | hy
      · exact hx2 hlt
      · exact hx2 (ltK_trans (h.1 y.1 (List.mem_map.2 ⟨y, hy, rfl⟩)) hlt)
theorem Like.put {M L : List Row} (h : Like M L) (k : Key) (a : Int) : Like (putR M k a) (rput L k a) := by
  have hn := rising_nodup h.rise
  unfold rput
  rcases fidx_cases L k with ⟨h1, h2⟩ | ⟨j, b, h1, h2, h3⟩
  · rw [if_neg (by rw [h1]; simp)]
    obtain ⟨w1, w2⟩ := while_rise (k := k) h.rise
    have hno := getL_none h1
    have happ : L.takeWhile (fun r => aheadB r.1 k) ++ L.dropWhile (fun r => aheadB r.1 k) = L := List.takeWhile_append_dropWhile
    refine ⟨?_, ?_⟩
    · refine List.perm_middle.trans ?_
      rw [happ]
      unfold putR
      refine List.Perm.cons _ ?_
      have hf : (M.filter fun r => decide (r.1 ≠ k)) = M := List.filter_eq_self.2 fun r hr => by
        have := hno r (h.perm.mem_iff.2 hr)
        simpa using this
      rw [hf]; exact h.perm
    · have hr := h.rise
      rw [← happ] at hr
      unfold Rising at hr ⊢
      rw [List.map_append, List.pairwise_append] at hr
      rw [List.map_append, List.map_cons, List.pairwise_append, List.pairwise_cons]
      obtain ⟨r1, r2, r3⟩ := hr
      refine ⟨r1, ⟨fun x hx => ?_, r2⟩, fun x hx y hy => ?_⟩
      · obtain ⟨r, hr, rfl⟩ := List.mem_map.1 hx
        have hne := hno r (by rw [← happ]; exact List.mem_append_right _ hr)
        rcases ltK_tri k r.1 with e | e | e
        · exact absurd e.symm hne
        · exact e
        · exact absurd e (w2 r hr)
      · obtain ⟨r, hr, rfl⟩ := List.mem_map.1 hx
        rcases List.mem_cons.1 hy with rfl | hy
        · exact w1 r hr
        · exact r3 _ (List.mem_map.2 ⟨r, hr, rfl⟩) y hy
  · rw [if_pos (by rw [h3]; rfl), h1, Int.toNat_natCast]
    have hn2 : ((L.set j (k, a)).map (·.1)).Nodup := by rw [take_map_set h2]; exact hn
    refine ⟨rows_perm hn2 ?_ fun k' => ?_, by rw [take_map_set h2]; exact h.rise⟩
    · unfold putR
      rw [List.map_cons, List.nodup_cons]
      refine ⟨fun hm => ?_, h.nodup.sublist (List.filter_sublist.map _)⟩
      obtain ⟨r, hr, e⟩ := List.mem_map.1 hm
      have := (List.mem_filter.1 hr).2
      simp at this; exact this e
    · rw [getL_set hn h2, getL_put, h.get k']
theorem Like.commit {M L : List Row} (h : Like M L) (room : Int) (k : Key) (a : Int) : Like (commitL room M k a) (rcommitL room L k a) := by
  unfold commitL rcommitL
  rw [h.code room k a]
  split
  · exact h.put k a
  · exact h
theorem Like.keep {M L : List Row} (h : Like M L) (p : Key → Bool) : Like (keepL M p) (keepL L p) :=
  ⟨h.perm.filter _, h.rise.sublist (List.filter_sublist.map _)⟩
theorem cut_del {L : List Row} {j : Nat} {k : Key} {a : Int} (hn : (L.map (·.1)).Nodup) (h : L[j]? = some (k, a)) : L.take j ++ L.drop (j + 1) = delL L k := by
  have e : L = L.take j ++ (k, a) :: L.drop (j + 1) := by rw [← drop_of h, List.take_append_drop]
  have hn2 := hn
  rw [e, List.map_append, List.map_cons, List.nodup_append] at hn2
  obtain ⟨-, n2, n3⟩ := hn2
  rw [List.nodup_cons] at n2
  unfold delL
  conv => rhs; rw [e]
  rw [List.filter_append, List.filter_cons_of_neg (by simp)]
  congr 1
  · exact (List.filter_eq_self.2 fun r hr => by
      have := n3 r.1 (List.mem_map.2 ⟨r, hr, rfl⟩) k (by simp)
      simpa using this).symm
  · exact (List.filter_eq_self.2 fun r hr => by
      have : r.1 ≠ k := fun e => n2.1 (List.mem_map.2 ⟨r, hr, e⟩)
      simpa using this).symm
theorem del_none {M : List Row} {k : Key} (h : getL M k = none) : delL M k = M :=
  List.filter_eq_self.2 fun r hr => by simpa using getL_none h r hr
theorem Like.apply {M L : List Row} (h : Like M L) (room : Int) (r : Rec) (n : Nat) : rapplyE room L r n = applyE room M r n ∧ Like (applyL room M r n) (rapplyL room L r n) := by
  unfold rapplyE applyE rapplyL applyL
  rw [rd_doc]
  by_cases hd : rdDoc r n = true
  · rw [if_pos hd, if_pos hd, if_pos hd, if_pos hd]
    by_cases hg : r.gone = true
    · rw [if_pos hg, if_pos hg, if_pos hg, if_pos hg]
      refine ⟨rfl, ?_⟩
      rcases fidx_cases L (rdS r n).1 with ⟨h1, h2⟩ | ⟨j, b, h1, h2, h3⟩
      · rw [if_neg (by rw [h1]; simp), del_none (by rw [← h.get]; exact h1)]
        exact h
      · rw [if_pos (by rw [h3]; rfl), h1, Int.toNat_natCast, cut_del (rising_nodup h.rise) h2]
        exact ⟨h.perm.filter _, h.rise.sublist (List.filter_sublist.map _)⟩
    · rw [if_neg hg, if_neg hg, if_neg hg, if_neg hg]
      exact ⟨h.code _ _ _, h.commit _ _ _⟩
  · rw [if_neg hd, if_neg hd, if_neg hd, if_neg hd]
    exact ⟨rfl, h⟩
end Go.Proofs.Ytdgdhegbcjimbaa
