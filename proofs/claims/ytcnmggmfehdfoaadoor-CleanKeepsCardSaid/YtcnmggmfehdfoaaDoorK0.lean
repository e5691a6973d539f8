/- Batches in their order: what cleaning leaves, plain. -/
import Derived.Test.YtcnmggmfehdfoaaDoorG1
namespace Go.Proofs.YtcnmggmfehdfoaaDoor
open Go.RowKit Go.Fm
set_option linter.unusedVariables false
set_option linter.unusedSimpArgs false

structure InB (b : Bat) : Prop where
  rise : b.recs.Pairwise fun r s => r.at' < s.at'
  range : ∀ r ∈ b.recs, 0 ≤ r.at' ∧ r.at' < b.span
  span : 1 ≤ b.span
structure SortedL (l : List Bat) : Prop where
  apart : l.Pairwise fun b c => b.base + b.span ≤ c.base
  bats : ∀ b ∈ l, InB b

theorem pair_get {α : Type} {R : α → α → Prop} {l : List α} (h : l.Pairwise R) {i j : Nat} {x y : α} (hi : l[i]? = some x) (hj : l[j]? = some y) (hij : i < j) : R x y := by
  obtain ⟨h1, rfl⟩ := List.getElem?_eq_some_iff.1 hi
  obtain ⟨h2, rfl⟩ := List.getElem?_eq_some_iff.1 hj
  exact List.pairwise_iff_getElem.1 h i j h1 h2 hij

/-- A record stands there. -/
def At (l : List Bat) (i k : Nat) (b : Bat) (r : Rec) : Prop := l[i]? = some b ∧ b.recs[k]? = some r
theorem pos_lt {l : List Bat} (h : SortedL l) {i k j m : Nat} {b c : Bat} {r s : Rec} (h1 : At l i k b r) (h2 : At l j m c s) (hB : Behind j m i k) : b.base + r.at' < c.base + s.at' := by
  have hr := (h.bats b (List.mem_of_getElem? h1.1)).range r (List.mem_of_getElem? h1.2)
  have hs := (h.bats c (List.mem_of_getElem? h2.1)).range s (List.mem_of_getElem? h2.2)
  rcases hB with hB | ⟨rfl, hB⟩
  · have := pair_get h.apart h1.1 h2.1 hB
    omega
  · have e := h2.1
    rw [h1.1] at e
    injection e with e
    subst e
    have := pair_get (h.bats b (List.mem_of_getElem? h1.1)).rise h1.2 h2.2 hB
    omega
theorem pos_inj {l : List Bat} (h : SortedL l) {i k j m : Nat} {b c : Bat} {r s : Rec} (h1 : At l i k b r) (h2 : At l j m c s) (he : b.base + r.at' = c.base + s.at') : i = j ∧ k = m ∧ b = c ∧ r = s := by
  have hn1 : ¬ Behind j m i k := fun hB => by have := pos_lt h h1 h2 hB; omega
  have hn2 : ¬ Behind i k j m := fun hB => by have := pos_lt h h2 h1 hB; omega
  unfold Behind at hn1 hn2
  have e1 : i = j := by omega
  have e2 : k = m := by omega
  subst e1 e2
  have e3 := h1.1.symm.trans h2.1
  injection e3 with e3
  subst e3
  have e4 := h1.2.symm.trans h2.2
  injection e4 with e4
  exact ⟨rfl, rfl, rfl, e4⟩
theorem behind_of_lt {l : List Bat} (h : SortedL l) {i k j m : Nat} {b c : Bat} {r s : Rec} (h1 : At l i k b r) (h2 : At l j m c s) (hl : b.base + r.at' < c.base + s.at') : Behind j m i k := by
  by_cases hB : Behind j m i k
  · exact hB
  · exfalso
    by_cases hB2 : Behind i k j m
    · have := pos_lt h h2 h1 hB2; omega
    · unfold Behind at hB hB2
      have e1 : i = j := by omega
      have e2 : k = m := by omega
      subst e1 e2
      have e3 := h1.1.symm.trans h2.1
      injection e3 with e3
      subst e3
      have e4 := h1.2.symm.trans h2.2
      injection e4 with e4
      subst e4
      omega

section
variable {f : ByteArray → Option (Nat × Nat)} {g : Int → Option Nat} {upto before : Int} {l : List Bat}
theorem keptTo_sub (f : ByteArray → Option (Nat × Nat)) (before : Int) (i : Nat) (hi : Bool) (rs : List Rec) : ∀ k, k ≤ rs.length → (keptTo f before i hi rs k).Sublist (rs.take k)
  | 0, _ => by simp [keptTo]
  | k + 1, h => by
    obtain ⟨r, hr⟩ := get_of_lt (show k < rs.length by omega)
    have ih := keptTo_sub f before i hi rs k (by omega)
    rw [take_snoc hr]
    cases hg : (hi || !goesB f before i k r) with
    | true => rw [keptTo_yes hr hg]; exact ih.append (List.Sublist.refl _)
    | false => rw [keptTo_no hr hg]; exact ih.trans (List.sublist_append_left _ _)
theorem keptOf_sub (i : Nat) (b : Bat) : (keptOf f upto before i b).Sublist b.recs := by
  have := keptTo_sub f before i (isHi upto b) b.recs b.recs.length (Nat.le_refl _)
  rw [List.take_length] at this
  exact this
theorem kept_good {i : Nat} {hi : Bool} {rs : List Rec} {r : Rec} : ∀ {k : Nat}, r ∈ keptTo f before i hi rs k → ∃ m, rs[m]? = some r ∧ (hi || !goesB f before i m r) = true
  | 0, h => by simp [keptTo] at h
  | k + 1, h => by
    cases hr : rs[k]? with
    | none => simp only [keptTo, hr] at h; exact kept_good h
    | some r' =>
      cases hg : (hi || !goesB f before i k r') with
      | true =>
        rw [keptTo_yes hr hg] at h
        rcases List.mem_append.1 h with h | h
        · exact kept_good h
        · simp at h; subst h; exact ⟨k, hr, hg⟩
      | false => rw [keptTo_no hr hg] at h; exact kept_good h
theorem kept_has {i : Nat} {hi : Bool} {rs : List Rec} {r : Rec} {m : Nat} (hr : rs[m]? = some r) (hg : (hi || !goesB f before i m r) = true) : ∀ k, m < k → r ∈ keptTo f before i hi rs k
  | 0, h => by omega
  | k + 1, h => by
    by_cases e : m = k
    · subst e; rw [keptTo_yes hr hg]; simp
    · have ih := kept_has hr hg k (by omega)
      cases hr2 : rs[k]? with
      | none => simp only [keptTo, hr2]; exact ih
      | some r' =>
        cases hg2 : (hi || !goesB f before i k r') with
        | true => rw [keptTo_yes hr2 hg2]; exact List.mem_append_left _ ih
        | false => rw [keptTo_no hr2 hg2]; exact ih
theorem cleanTo_get {c : Bat} : ∀ {k : Nat}, c ∈ cleanTo f g upto before l k → ∃ (i : Nat) (b : Bat), i < k ∧ l[i]? = some b ∧ c = { b with recs := keptOf f upto before i b } ∧ (isHi upto b || !(keptOf f upto before i b).isEmpty || g b.prod == some i) = true
  | 0, h => by simp [cleanTo] at h
  | k + 1, h => by
    cases hb : l[k]? with
    | none => simp only [cleanTo, hb] at h; obtain ⟨i, b, h1, h2⟩ := cleanTo_get h; exact ⟨i, b, by omega, h2⟩
    | some b =>
      cases hg : (isHi upto b || !(keptOf f upto before k b).isEmpty || g b.prod == some k) with
      | true =>
        rw [cleanTo_yes hb hg] at h
        rcases List.mem_append.1 h with h | h
        · obtain ⟨i, b, h1, h2⟩ := cleanTo_get h; exact ⟨i, b, by omega, h2⟩
        · simp at h; exact ⟨k, b, by omega, hb, h, hg⟩
      | false => rw [cleanTo_no hb hg] at h; obtain ⟨i, b, h1, h2⟩ := cleanTo_get h; exact ⟨i, b, by omega, h2⟩
theorem cleanTo_has {i : Nat} {b : Bat} (hb : l[i]? = some b) (hg : (isHi upto b || !(keptOf f upto before i b).isEmpty || g b.prod == some i) = true) : ∀ k, i < k → { b with recs := keptOf f upto before i b } ∈ cleanTo f g upto before l k
  | 0, h => by omega
  | k + 1, h => by
    by_cases e : i = k
    · subst e; rw [cleanTo_yes hb hg]; simp
    · have ih := cleanTo_has hb hg k (by omega)
      cases hb2 : l[k]? with
      | none => simp only [cleanTo, hb2]; exact ih
      | some b' =>
        cases hg2 : (isHi upto b' || !(keptOf f upto before k b').isEmpty || g b'.prod == some k) with
        | true => rw [cleanTo_yes hb2 hg2]; exact List.mem_append_left _ ih
        | false => rw [cleanTo_no hb2 hg2]; exact ih
theorem clean_apart (h : SortedL l) : ∀ k, (cleanTo f g upto before l k).Pairwise fun b c => b.base + b.span ≤ c.base
  | 0 => by simp [cleanTo]
  | k + 1 => by
    have ih := clean_apart h k
    cases hb : l[k]? with
    | none => simp only [cleanTo, hb]; exact ih
    | some b =>
      cases hg : (isHi upto b || !(keptOf f upto before k b).isEmpty || g b.prod == some k) with
      | false => rw [cleanTo_no hb hg]; exact ih
      | true =>
        rw [cleanTo_yes hb hg]
        refine List.pairwise_append.2 ⟨ih, List.pairwise_singleton _ _, fun x hx y hy => ?_⟩
        simp at hy; subst hy
        obtain ⟨i, b', hi, hb', rfl, -⟩ := cleanTo_get hx
        have := pair_get h.apart hb' hb hi
        exact this
theorem clean_sorted (h : SortedL l) : SortedL (cleanTo f g upto before l l.length) := by
  refine ⟨clean_apart h _, fun c hc => ?_⟩
  obtain ⟨i, b, hi, hb, rfl, -⟩ := cleanTo_get hc
  have hB := h.bats b (List.mem_of_getElem? hb)
  exact ⟨hB.rise.sublist (keptOf_sub i b), fun r hr => hB.range r ((keptOf_sub i b).subset hr), hB.span⟩
/-- What is there stood there. -/
theorem clean_at {j m : Nat} {c : Bat} {r : Rec} (h : At (cleanTo f g upto before l l.length) j m c r) : ∃ i k b, At l i k b r ∧ c.base = b.base ∧ c = { b with recs := keptOf f upto before i b } ∧ (isHi upto b || !goesB f before i k r) = true := by
  obtain ⟨i, b, hi, hb, rfl, -⟩ := cleanTo_get (List.mem_of_getElem? h.1)
  obtain ⟨k, hk, hg⟩ := kept_good (List.mem_of_getElem? h.2)
  exact ⟨i, k, b, ⟨hb, hk⟩, rfl, rfl, hg⟩
end

/-- Cleaned again it is the same. -/
theorem clean_again {upto before : Int} {l c : List Bat} (h : SortedL l) (hc : c = cleanTo (keysTo l l.length) (ownersTo l l.length) upto before l l.length) :
    cleanTo (keysTo c c.length) (ownersTo c c.length) upto before c c.length = c := by
  have hs : SortedL c := by rw [hc]; exact clean_sorted h
  have key : ∀ k, k ≤ c.length → cleanTo (keysTo c c.length) (ownersTo c c.length) upto before c k = c.take k := by
    intro k
    induction k with
    | zero => intro _; simp [cleanTo]
    | succ k ih =>
      intro hk
      obtain ⟨x, hx⟩ := get_of_lt (show k < c.length by omega)
      have hx' := hx
      rw [hc] at hx'
      obtain ⟨i, b, hi, hb, hxe, hret⟩ := cleanTo_get (List.mem_of_getElem? hx')
      have hhi : isHi upto x = isHi upto b := by rw [hxe]; rfl
      have hrecs : keptOf (keysTo c c.length) upto before k x = x.recs := by
        cases hH : isHi upto x with
        | true => have := keptOf_hi (f := keysTo c c.length) (before := before) (i := k) hH; exact congrArg Bat.recs this
        | false =>
          have hall : ∀ n, n ≤ x.recs.length → keptTo (keysTo c c.length) before k false x.recs n = x.recs.take n := by
            intro n
            induction n with
            | zero => intro _; simp [keptTo]
            | succ n ihn =>
              intro hn
              obtain ⟨y, hy⟩ := get_of_lt (show n < x.recs.length by omega)
              have hmem : y ∈ keptOf (keysTo l l.length) upto before i b := by
                have := List.mem_of_getElem? hy
                rw [hxe] at this; exact this
              unfold keptOf at hmem
              rw [← hhi, hH] at hmem
              obtain ⟨m0, hm0, hgood⟩ := kept_good hmem
              have hgo : goesB (keysTo c c.length) before k n y = false := by
                cases hbare : y.bare with
                | true => simp [goesB, hbare]
                | false =>
                  have hg2 : goesB (keysTo l l.length) before i m0 y = false := by simpa using hgood
                  simp only [goesB, hbare, Bool.not_false, Bool.true_and, Bool.or_eq_false_iff, bne_eq_false_iff_eq] at hg2
                  have hHit : Hit c y.key k n := ⟨x, y, hx, hy, hbare, rfl⟩
                  have hk2 : keysTo c c.length y.key = some (k, n) := by
                    refine Classical.byContradiction fun hne => ?_
                    obtain ⟨j, m, ⟨b', s, hj, hm, hsb, hsk⟩, hB⟩ := (later_iff hHit).2 hne
                    have hlt := pos_lt hs (show At c k n x y from ⟨hx, hy⟩) (show At c j m b' s from ⟨hj, hm⟩) hB
                    have hj' := hj
                    rw [hc] at hj'
                    obtain ⟨j0, m1, b0, hat, hbase, -, -⟩ := clean_at (show At _ j m b' s from ⟨hj', hm⟩)
                    have hxb : x.base = b.base := by rw [hxe]
                    have hB0 := behind_of_lt h (show At l i m0 b y from ⟨hb, hm0⟩) hat (by rw [← hbase, ← hxb]; exact hlt)
                    have h3 := (later_iff (show Hit l y.key i m0 from ⟨b, y, hb, hm0, hbare, rfl⟩)).1 ⟨j0, m1, ⟨b0, s, hat.1, hat.2, hsb, hsk⟩, hB0⟩
                    exact h3 hg2.1
                  simp [goesB, hbare, hk2, hg2.2]
              rw [keptTo_yes hy (by rw [hgo]; rfl), ihn (by omega), take_snoc hy]
          unfold keptOf
          rw [hH, hall _ (Nat.le_refl _), List.take_length]
      have hkeep : (isHi upto x || !(keptOf (keysTo c c.length) upto before k x).isEmpty || ownersTo c c.length x.prod == some k) = true := by
        rw [hrecs, hhi]
        have hxr : x.recs = keptOf (keysTo l l.length) upto before i b := by rw [hxe]
        rw [hxr]
        cases h1 : isHi upto b with
        | true => rfl
        | false =>
          cases h2 : (keptOf (keysTo l l.length) upto before i b).isEmpty with
          | false => rfl
          | true =>
            rw [h1, h2] at hret
            have hown : ownersTo l l.length b.prod = some i := by simpa using hret
            obtain ⟨h3, h4⟩ := (last_iff hb).2 hown
            have hprod : x.prod = b.prod := by rw [hxe]
            have : ownersTo c c.length x.prod = some k := by
              refine (last_iff hx).1 ⟨by rw [hprod]; exact h3, fun j b' hj hb' => ?_⟩
              have hb2 := hb'
              rw [hc] at hb2
              obtain ⟨j0, b0, hj0, hbj, hbe, -⟩ := cleanTo_get (List.mem_of_getElem? hb2)
              have hap := pair_get hs.apart hx hb' hj
              have hsp := (hs.bats x (List.mem_of_getElem? hx)).span
              have hlt : i < j0 := by
                rcases Nat.lt_or_ge i j0 with h5 | h5
                · exact h5
                · exfalso
                  have hxb : x.base = b.base := by rw [hxe]
                  have hbb : b'.base = b0.base := by rw [hbe]
                  rcases Nat.lt_or_ge j0 i with h6 | h6
                  · have h7 := pair_get h.apart hbj hb h6
                    have h8 := (h.bats b0 (List.mem_of_getElem? hbj)).span
                    omega
                  · have : i = j0 := by omega
                    subst this
                    rw [hb] at hbj
                    injection hbj with hbj
                    subst hbj
                    omega
              have h9 := h4 j0 b0 hlt hbj
              rw [hprod, hbe]
              exact h9
            rw [this]; simp
      rw [cleanTo_yes hx hkeep, ih (by omega), hrecs, take_snoc hx]
  rw [key _ (Nat.le_refl _), List.take_length]
end Go.Proofs.YtcnmggmfehdfoaaDoor
