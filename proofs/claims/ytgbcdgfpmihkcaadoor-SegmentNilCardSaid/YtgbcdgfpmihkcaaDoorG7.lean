/- from, Read of a segment: the walks. -/
import Derived.Test.YtgbcdgfpmihkcaaDoorG6
namespace Go.Proofs.YtgbcdgfpmihkcaaDoor
open Go.RowKit Go.Fm Go.BigFrame Go.Shelf Go.Maps
set_option linter.unusedVariables false
set_option linter.unusedSimpArgs false
set_option maxRecDepth 100000

theorem keps_of : ∀ {l : List Bat} {p j : Nat} {k : Kep}, (keps p l)[j]? = some k → ∃ b, l[j]? = some b ∧ k = ⟨b, p + sumB (l.take j), bsz b⟩
  | [], _, _, _, h => by simp [keps] at h
  | a :: l, p, 0, k, h => by simp [keps] at h; subst h; exact ⟨a, rfl, by simp [sumB]⟩
  | a :: l, p, j + 1, k, h => by
    obtain ⟨b, h1, h2⟩ := keps_of (l := l) (p := p + bsz a) (j := j) (k := k) (by simpa [keps] using h)
    exact ⟨b, by simpa using h1, by rw [h2]; simp [sumB_cons, Nat.add_assoc]⟩
theorem sumB_take_le : ∀ {l : List Bat} {i j : Nat}, i ≤ j → sumB (l.take i) ≤ sumB (l.take j)
  | [], _, _, _ => by simp
  | a :: l, 0, j, _ => by simp [sumB]
  | a :: l, i + 1, 0, h => by omega
  | a :: l, i + 1, j + 1, h => by
    have := sumB_take_le (l := l) (i := i) (j := j) (by omega)
    simp only [List.take_succ_cons, sumB_cons]
    omega
theorem sumB_take_all (l : List Bat) (i : Nat) : sumB (l.take i) ≤ sumB l := by
  rcases Nat.le_total i l.length with h | h
  · have := sumB_take_le (l := l) h
    rwa [List.take_length] at this
  · rw [List.take_of_length_le h]; exact Nat.le_refl _
theorem bsz_pos (b : Bat) : 8 ≤ bsz b := by unfold bsz; rw [batS_size]; omega
theorem sumB_take_lt {l : List Bat} {i j : Nat} {b : Bat} (hb : l[i]? = some b) (h : i < j) : sumB (l.take i) < sumB (l.take j) := by
  have h1 := sumB_take_le (l := l) (i := i + 1) (j := j) h
  rw [take_snoc' hb, sumB_snoc] at h1
  have := bsz_pos b
  omega
theorem keps_rise (l : List Bat) : ∀ (i j : Nat) (k k' : Kep), (keps 0 l)[i]? = some k → (keps 0 l)[j]? = some k' → i ≤ j → k.pos ≤ k'.pos := by
  intro i j k k' h h' hij
  obtain ⟨b, -, rfl⟩ := keps_of h
  obtain ⟨b', -, rfl⟩ := keps_of h'
  have := sumB_take_le (l := l) hij
  dsimp only
  omega
theorem keps_le (l : List Bat) (hs : sumB l ≤ 1000000000) : ∀ (i : Nat) (k : Kep), (keps 0 l)[i]? = some k → k.pos ≤ 1000000000 := by
  intro i k h
  obtain ⟨b, -, rfl⟩ := keps_of h
  have := sumB_take_all l i
  dsimp only
  omega
/-- The number of the first batch at a place or behind it. -/
def fromOf (l : List Bat) (p : Int) (r : Nat) : Prop := r ≤ l.length ∧ (∀ i, i < r → ((sumB (l.take i) : Nat) : Int) < p) ∧ ∀ i, i < l.length → r ≤ i → p ≤ (sumB (l.take i) : Nat)
def FromPost (l : List Bat) (p : Int) (w : World) (e : Ending) (w' : World) : Prop := ∃ r : Nat, e = .returned (.int .i64 r) ∧ fromOf l p r ∧ Fr (fun _ => False) w w'
theorem Sg.open {B : Nat} {w : World} {sb db : Nat} {nm : ByteArray} {s : Seg} {S : Nat → Prop} (h : Sg B w sb db nm s S) : ∃ bv ib T, w.heap[sb]? = some (segObj db nm s bv ib) ∧ KepsR (fun _ => True) w bv (keps 0 s.l) ∧ Ix.rep B w ib s.ix T := by
  obtain ⟨bv, ib, K, T, V, -⟩ := h
  exact ⟨bv, ib, T, V.hb, V.ks.reads (fun _ _ => trivial) fun _ _ _ => trivial, V.ix⟩
theorem from_walk {B : Nat} {w : World} {sb db : Nat} {nm : ByteArray} {s : Seg} {S : Nat → Prop} (h : Sg B w sb db nm s S) (p : Int) (h2 : 0 ≤ p) (h3 : p ≤ 1099511627776) :
    Calls Tryd.prog 23 #[.pointer (some ⟨sb, 0, none⟩), .int .i64 p] w (FromPost s.l p w) := by
  have ok := h.ok
  obtain ⟨bv, ib, T, hb, hk, -⟩ := h.open
  have c5 : w.cell? ⟨sb, 5, none⟩ = some bv := (cell_of hb 5).trans rfl
  have hl : (keps 0 s.l).length ≤ 1000 := by rw [keps_len]; have := ok.len; omega
  have HC := Lib.hid (bs_walk _ (keps 0 s.l) bv p w hk hl (keps_rise s.l) (keps_le s.l ok.sum) h2 h3)
  clear h hb hk hl ok
  go_enter Tryd.func23, Tryd.ntmps23
  go_wp2_with fail
  refine HC.out.mono ?_
  rintro e w' ⟨r, f, rfl, h1, h4, h5, hf⟩
  have hfrom : fromOf s.l p r := by
    rw [keps_len] at h1
    refine ⟨h1, fun i hi => ?_, fun i hl hi => ?_⟩
    · obtain ⟨b, hb⟩ := get_of_lt (show i < s.l.length by omega)
      have := h4 i _ (keps_get (p := 0) hb) hi
      simpa using this
    · obtain ⟨b, hb⟩ := get_of_lt hl
      have := h5 i _ (keps_get (p := 0) hb) hi
      simpa using this
  have HF := Lib.hid hfrom
  have F := Lib.hid hf
  clear h1 h4 h5 hf hfrom
  go_wp2_with fail
  go_ret
  exact ⟨r, rfl, HF.out, F.out⟩

/-- What is read from a place on. -/
def pick (from' most : Int) : List Bat → Int → List Bat → List Bat
  | [], _, out => out
  | b :: l, n, out => if b.base + b.span ≤ from' then pick from' most l n out else if 0 < out.length ∧ most < n + bsz b then out else pick from' most l (n + bsz b) (out ++ [b])
theorem pick_skip (from' most : Int) : ∀ (r : Nat) (l : List Bat) (n : Int) (out : List Bat), (∀ i b, l[i]? = some b → i < r → b.base + b.span ≤ from') → pick from' most (l.drop r) n out = pick from' most l n out
  | 0, l, n, out, _ => by rw [List.drop_zero]
  | r + 1, [], n, out, _ => by simp
  | r + 1, b :: l, n, out, h => by
    rw [List.drop_succ_cons, pick_skip from' most r l n out fun i b hb hi => h (i + 1) b (by simpa using hb) (by omega)]
    rw [pick, if_pos (h 0 b rfl (by omega))]
theorem pick_sub (from' most : Int) : ∀ (l : List Bat) (n : Int) (out : List Bat), (∀ b ∈ pick from' most l n out, b ∈ out ∨ b ∈ l) ∧ (pick from' most l n out).length ≤ out.length + l.length
  | [], n, out => ⟨fun b hb => .inl hb, by simp [pick]⟩
  | b :: l, n, out => by
    rw [pick]
    split
    · have h := pick_sub from' most l n out
      exact ⟨fun x hx => (h.1 x hx).imp id (List.mem_cons_of_mem _), by have := h.2; simp; omega⟩
    · split
      · exact ⟨fun x hx => .inl hx, by simp⟩
      · have h := pick_sub from' most l (n + bsz b) (out ++ [b])
        refine ⟨fun x hx => ?_, by have := h.2; simp at this ⊢; omega⟩
        rcases h.1 x hx with h1 | h1
        · rcases List.mem_append.1 h1 with h2 | h2
          · exact .inl h2
          · rw [List.mem_singleton.1 h2]; exact .inr List.mem_cons_self
        · exact .inr (List.mem_cons_of_mem _ h1)
theorem lastOf_mem (p : E → Bool) : ∀ (l : List E) (a : Nat), lastOf p a l = a ∨ ∃ e ∈ l, p e = true ∧ lastOf p a l = e.p
  | [], a => .inl rfl
  | x :: l, a => by
    unfold lastOf
    rw [List.foldl_cons]
    by_cases h : p x = true
    · rw [if_pos h]
      rcases lastOf_mem p l x.p with h1 | ⟨e, h1, h2, h3⟩
      · exact .inr ⟨x, List.mem_cons_self, h, h1⟩
      · exact .inr ⟨e, List.mem_cons_of_mem _ h1, h2, h3⟩
    · rw [if_neg h]
      rcases lastOf_mem p l a with h1 | ⟨e, h1, h2, h3⟩
      · exact .inl h1
      · exact .inr ⟨e, List.mem_cons_of_mem _ h1, h2, h3⟩
theorem add_mem {x : Ix} {o p t : Int} {e : E} (h : e ∈ (x.add o p t).es) : e ∈ x.es ∨ ((e.o : Int) = o ∧ (e.p : Int) = p) := by
  unfold Ix.add at h
  split at h
  · rename_i ht
    obtain ⟨⟨h1, h2, -⟩, -⟩ := ht
    unfold Ix.put at h
    dsimp only at h
    split at h
    · rcases List.mem_append.1 h with h | h
      · exact .inl h
      · rw [List.mem_singleton.1 h]
        exact .inr ⟨Int.toNat_of_nonneg h1.1, Int.toNat_of_nonneg h2.1⟩
    · exact .inl h
  · exact .inl h
theorem ix_mem (every : Nat) : ∀ (ks : List Kep) (x : Ix), ∀ e ∈ (ks.foldl ixPut x).es, e ∈ x.es ∨ ∃ k ∈ ks, k.b.base = e.o ∧ k.pos = e.p
  | [], x, e, h => .inl h
  | k :: ks, x, e, h => by
    rw [List.foldl_cons] at h
    rcases ix_mem every ks _ e h with h | ⟨k', h1, h2, h3⟩
    · rcases add_mem h with h | ⟨h1, h2⟩
      · exact .inl h
      · exact .inr ⟨k, List.mem_cons_self, h1.symm, by omega⟩
    · exact .inr ⟨k', List.mem_cons_of_mem _ h1, h2, h3⟩
theorem chn_end_le {p : Int} {l : List Bat} (h : Chn p l) : ∀ {i j : Nat} {b b' : Bat}, l[i]? = some b → l[j]? = some b' → i < j → b.base + b.span ≤ b'.base := by
  induction h with
  | nil p => intro i j b b' h; simp at h
  | cons h1 h2 h3 ih =>
    intro i j b b' hi hj hij
    cases j with
    | zero => omega
    | succ j =>
      cases i with
      | zero =>
        simp at hi hj
        subst hi
        exact (h3.ok b' (List.mem_of_getElem? hj)).2
      | succ i => exact ih (by simpa using hi) (by simpa using hj) (by omega)
/-- What the index lets a reader pass by holds nothing behind the place. -/
theorem find_skips {s : Seg} (ok : SgOK s) (from' : Int) {r : Nat} (hr : fromOf s.l (s.ix.find from') r) : ∀ i b, s.l[i]? = some b → i < r → b.base + b.span ≤ from' := by
  intro i b hb hi
  have h1 := hr.2.1 i hi
  rcases lastOf_mem (fun e => decide ((e.o : Int) ≤ from')) s.ix.es 0 with h | ⟨e, he, hp, h⟩
  · rw [show s.ix.find from' = 0 from h] at h1
    omega
  · rw [show s.ix.find from' = e.p from h] at h1
    rcases ix_mem s.every (keps 0 s.l) _ e he with h2 | ⟨k, hk, h2, h3⟩
    · cases h2
    · obtain ⟨j, hj⟩ := List.getElem?_of_mem hk
      obtain ⟨b', hb', rfl⟩ := keps_of hj
      dsimp only at h2 h3
      have hij : i < j := by
        rcases Nat.lt_or_ge i j with h4 | h4
        · exact h4
        · have := sumB_take_le (l := s.l) h4
          omega
      have := chn_end_le ok.ch hb hb' hij
      simp at hp
      omega
end Go.Proofs.YtgbcdgfpmihkcaaDoor
