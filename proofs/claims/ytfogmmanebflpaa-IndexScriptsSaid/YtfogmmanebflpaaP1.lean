/- The plain laws of an index: what its finding says of what was added. No program. -/
import Derived.Test.YtfogmmanebflpaaR4
namespace Go.Proofs.Ytfogmmanebflpaa
open Go.RowKit Go.Fm
set_option linter.unusedVariables false
set_option linter.unusedSimpArgs false

theorem lastOf_le (q : E → Bool) : ∀ (l : List E) (a m : Nat), a ≤ m → (∀ e ∈ l, e.p ≤ m) → lastOf q a l ≤ m := by
  intro l
  induction l with
  | nil => intro a m h _; exact h
  | cons e l ih =>
    intro a m h h1
    refine ih _ m ?_ fun e he => h1 e (List.mem_cons_of_mem _ he)
    dsimp only
    split
    · exact h1 e (List.mem_cons_self ..)
    · exact h

theorem Ix.good.find_le {x : Ix} (h : x.good) (o : Int) : x.find o ≤ x.lp := lastOf_le _ _ _ _ (Nat.zero_le _) fun e he => (h.last e he).2.1
theorem Ix.good.seek_le {x : Ix} (h : x.good) (o : Int) : x.seek o ≤ x.lp := lastOf_le _ _ _ _ (Nat.zero_le _) fun e he => (h.last e he).2.1

def Ix.nlat (x : Ix) (t : Nat) : Nat := if x.any then max x.lat t else t
theorem Ix.put_eq (x : Ix) (o p t : Nat) : x.put o p t = { every := x.every, es := if x.entry p then x.es ++ [⟨o, p, x.nlat t⟩] else x.es, any := true, lo := o, lp := p, lat := x.nlat t } := rfl

theorem Ix.put_find (x : Ix) (o p t : Nat) (a : Int) : (x.put o p t).find a = if x.entry p = true ∧ (o : Int) ≤ a then p else x.find a := by
  rw [Ix.put_eq]
  unfold Ix.find
  by_cases he : x.entry p = true
  · simp only [he, if_true, true_and, lastOf_snoc, decide_eq_true_eq]
  · simp [he]
theorem Ix.put_seek (x : Ix) (o p t : Nat) (a : Int) : (x.put o p t).seek a = if x.entry p = true ∧ (x.nlat t : Int) < a then p else x.seek a := by
  rw [Ix.put_eq]
  unfold Ix.seek
  by_cases he : x.entry p = true
  · simp only [he, if_true, true_and, lastOf_snoc, decide_eq_true_eq]
  · simp [he]

/-- What is known of the last up to an offset, of the first with a time. -/
structure Ahd (x : Ix) (off tm last first : Int) : Prop where
  l : 0 ≤ last → (x.find off : Int) ≤ last
  f : 0 ≤ first → x.any = true ∧ tm ≤ (x.lat : Int) ∧ (x.seek tm : Int) ≤ first

theorem Ahd.nil (x : Ix) (off tm : Int) : Ahd x off tm (-1) (-1) := ⟨fun h => absurd h (by omega), fun h => absurd h (by omega)⟩

theorem Ahd.put {x : Ix} {off tm last first : Int} (h : Ahd x off tm last first) (hg : x.good) (o p t : Nat) (hg' : (x.put o p t).good) :
    Ahd (x.put o p t) off tm (if (o : Int) ≤ off then (p : Int) else last) (if first < 0 ∧ tm ≤ (t : Int) then (p : Int) else first) := by
  have hle := hg'.find_le off
  have hls := hg'.seek_le tm
  have hlp : (x.put o p t).lp = p := rfl
  have hany : (x.put o p t).any = true := rfl
  have hlat : (x.put o p t).lat = x.nlat t := rfl
  have hnt : t ≤ x.nlat t := by unfold Ix.nlat; split <;> omega
  rw [hlp] at hle hls
  constructor
  · intro h0
    by_cases ho : (o : Int) ≤ off
    · rw [if_pos ho]; omega
    · rw [if_neg ho] at h0 ⊢
      rw [Ix.put_find, if_neg (fun h => ho h.2)]
      exact h.l h0
  · intro h0
    refine ⟨hany, ?_⟩
    rw [hlat]
    by_cases hc : first < 0 ∧ tm ≤ (t : Int)
    · rw [if_pos hc]
      omega
    · rw [if_neg hc] at h0 ⊢
      obtain ⟨h1, h2, h3⟩ := h.f h0
      have hn : x.lat ≤ x.nlat t := by unfold Ix.nlat; rw [h1]; simp only [if_true]; omega
      refine ⟨by omega, ?_⟩
      rw [Ix.put_seek, if_neg (fun h => by omega)]
      exact h3

theorem Ahd.add {x : Ix} {off tm last first : Int} (h : Ahd x off tm last first) (hg : x.good) (o p t : Int) (ht : x.takes o p t) :
    Ahd (x.add o p t) off tm (if o ≤ off then p else last) (if first < 0 ∧ tm ≤ t then p else first) := by
  have hg' := hg.add o p t
  unfold Ix.add at hg' ⊢
  rw [if_pos ht] at hg' ⊢
  obtain ⟨⟨⟨o1, _⟩, ⟨p1, _⟩, t1, _⟩, _⟩ := ht
  obtain ⟨o, rfl⟩ := Int.eq_ofNat_of_zero_le o1
  obtain ⟨p, rfl⟩ := Int.eq_ofNat_of_zero_le p1
  obtain ⟨t, rfl⟩ := Int.eq_ofNat_of_zero_le t1
  exact h.put hg o p t hg'

theorem Ix.takes_code {x : Ix} {o p t : Int} : x.code o p t = 0 ↔ x.takes o p t := by unfold Ix.code; split <;> simp_all
theorem Ix.code_or (x : Ix) (o p t : Int) : x.code o p t = 0 ∨ x.code o p t = 1 := by unfold Ix.code; split <;> simp
theorem Ix.add_same {x : Ix} {o p t : Int} (h : x.code o p t ≠ 0) : x.add o p t = x := by unfold Ix.add; rw [if_neg (fun hh => h (Ix.takes_code.2 hh))]

/-- Entries apart. -/
def apart (n : Nat) (es : List E) : Prop := ∀ k a b, es[k]? = some a → es[k + 1]? = some b → a.p + n ≤ b.p

theorem apart_snoc {n : Nat} {es : List E} (h : apart n es) (e : E) (hl : ∀ a, es.getLast? = some a → a.p + n ≤ e.p) : apart n (es ++ [e]) := by
  intro k a b ha hb
  rcases Nat.lt_or_ge (k + 1) es.length with h1 | h1
  · rw [List.getElem?_append_left (by omega)] at ha
    rw [List.getElem?_append_left h1] at hb
    exact h k a b ha hb
  · have h2 : k + 1 < (es ++ [e]).length := (List.getElem?_eq_some_iff.1 hb).1
    simp only [List.length_append, List.length_cons, List.length_nil] at h2
    have h3 : k + 1 = es.length := by omega
    rw [List.getElem?_append_left (by omega)] at ha
    rw [h3, List.getElem?_concat_length] at hb
    injection hb with hb
    subst hb
    refine hl a ?_
    rw [List.getLast?_eq_getElem?, ← h3]
    exact ha

/-- Two indexes that were given the same; the second has an entry for each. -/
structure Twin (x y : Ix) (n : Nat) : Prop where
  any : x.any = y.any
  lo : x.lo = y.lo
  lp : x.lp = y.lp
  lat : x.lat = y.lat
  one : y.every = 1
  len : x.es.length ≤ y.es.length
  num : y.es.length = n
  apart : apart x.every x.es
  find : ∀ a, x.find a ≤ y.find a
  seek : ∀ a, x.seek a ≤ y.seek a

theorem Twin.new (e : Nat) : Twin (ixNew e) (ixNew 1) 0 := by
  refine ⟨rfl, rfl, rfl, rfl, rfl, Nat.le_refl _, rfl, ?_, fun a => Nat.le_refl _, fun a => Nat.le_refl _⟩
  intro k a b h
  cases h

theorem Twin.takes {x y : Ix} {n : Nat} (h : Twin x y n) (o p t : Int) : x.takes o p t ↔ y.takes o p t := by
  unfold Ix.takes
  rw [h.any, h.lo, h.lp]

theorem Twin.code {x y : Ix} {n : Nat} (h : Twin x y n) (o p t : Int) : x.code o p t = y.code o p t := by
  unfold Ix.code
  by_cases ht : x.takes o p t
  · rw [if_pos ht, if_pos ((h.takes o p t).1 ht)]
  · rw [if_neg ht, if_neg (fun hh => ht ((h.takes o p t).2 hh))]

theorem lastP_le {x : Ix} (h : x.good) : x.lastP ≤ x.lp := by
  unfold Ix.lastP
  cases hl : x.es.getLast? with
  | none => exact Nat.zero_le _
  | some e => exact (h.last e (List.mem_of_getLast? hl)).2.1

theorem Twin.add {x y : Ix} {n : Nat} (h : Twin x y n) (hx : x.good) (hy : y.good) (o p t : Int) : Twin (x.add o p t) (y.add o p t) (if y.code o p t = 0 then n + 1 else n) := by
  by_cases ht : y.takes o p t
  · have htx := (h.takes o p t).2 ht
    rw [if_pos (Ix.takes_code.2 ht)]
    have hy' := hy.add o p t
    unfold Ix.add at hy' ⊢
    rw [if_pos ht] at hy'
    rw [if_pos ht, if_pos htx]
    obtain ⟨⟨⟨o1, _⟩, ⟨p1, _⟩, t1, _⟩, ha⟩ := ht
    obtain ⟨o, rfl⟩ := Int.eq_ofNat_of_zero_le o1
    obtain ⟨p, rfl⟩ := Int.eq_ofNat_of_zero_le p1
    obtain ⟨t, rfl⟩ := Int.eq_ofNat_of_zero_le t1
    simp only [Int.toNat_natCast] at hy' ⊢
    have hey : y.entry p = true := by
      unfold Ix.entry
      by_cases he : y.es.isEmpty = true
      · rw [he]; rfl
      · have hany : y.any = true := by rw [hy.any]; simp [he]
        have := (ha hany).2
        have := lastP_le hy
        rw [h.one]
        simp only [Bool.or_eq_true, decide_eq_true_eq]
        right
        omega
    have hnl : x.nlat t = y.nlat t := by unfold Ix.nlat; rw [h.any, h.lat]
    have hfy := hy.find_le
    have hsy := hy.seek_le
    have hlow : ∀ k, k ≤ y.lp → (y.es ≠ [] → k ≤ p) := by
      intro k hk he
      have hany : y.any = true := by rw [hy.any]; simp [he]
      have := (ha hany).2
      omega
    have f0 : ∀ a, y.find a ≤ p := by
      intro a
      by_cases he : y.es = []
      · unfold Ix.find; rw [he]; exact Nat.zero_le _
      · exact hlow _ (hfy a) he
    have s0 : ∀ a, y.seek a ≤ p := by
      intro a
      by_cases he : y.es = []
      · unfold Ix.seek; rw [he]; exact Nat.zero_le _
      · exact hlow _ (hsy a) he
    refine ⟨rfl, rfl, rfl, hnl, h.one, ?_, ?_, ?_, ?_, ?_⟩
    · rw [Ix.put_eq, Ix.put_eq]
      simp only [hey, if_true]
      have := h.len
      split <;> simp <;> omega
    · rw [Ix.put_eq]
      simp only [hey, if_true, List.length_append, List.length_cons, List.length_nil, h.num]
    · rw [Ix.put_eq]
      by_cases hex : x.entry p = true
      · simp only [hex, if_true]
        refine apart_snoc h.apart _ fun a hl => ?_
        unfold Ix.entry Ix.lastP at hex
        rw [hl] at hex
        have hne : x.es.isEmpty = false := by cases hq : x.es with | nil => rw [hq] at hl; cases hl | cons _ _ => rfl
        rw [hne] at hex
        simp only [Bool.false_or, decide_eq_true_eq, Option.map_some, Option.getD_some] at hex
        dsimp only
        omega
      · simp only [hex, Bool.false_eq_true, if_false]
        exact h.apart
    · intro a
      rw [Ix.put_find, Ix.put_find]
      have := h.find a
      have := f0 a
      simp only [hey, true_and]
      by_cases hoa : (o : Int) ≤ a
      · simp only [hoa, and_true, if_true]
        split <;> omega
      · simp only [hoa, and_false, if_false]
        omega
    · intro a
      rw [Ix.put_seek, Ix.put_seek, hnl]
      have := h.seek a
      have := s0 a
      simp only [hey, true_and]
      by_cases hoa : ((y.nlat t : Nat) : Int) < a
      · simp only [hoa, and_true, if_true]
        split <;> omega
      · simp only [hoa, and_false, if_false]
        omega
  · have htx : ¬ x.takes o p t := fun hh => ht ((h.takes o p t).1 hh)
    rw [if_neg (fun hh => ht (Ix.takes_code.1 hh))]
    unfold Ix.add
    rw [if_neg ht, if_neg htx]
    exact h
end Go.Proofs.Ytfogmmanebflpaa
