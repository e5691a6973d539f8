/- Latest, of the program and of the document: the walks. -/
import Derived.Test.YtheddgeefekdlaaDoorL1
namespace Go.Proofs.YtheddgeefekdlaaDoor
open Go.RowKit Go.Fm Go.BigFrame
set_option linter.unusedVariables false
set_option linter.unusedSimpArgs false

/-- A record with this key stands there. -/
def Hit (l : List Bat) (s : ByteArray) (i k : Nat) : Prop := ∃ b r, l[i]? = some b ∧ b.recs[k]? = some r ∧ r.bare = false ∧ r.key = s
/-- (i, k) comes behind (j, m). -/
def Behind (i k j m : Nat) : Prop := j < i ∨ (j = i ∧ m < k)

theorem keysIn_spec {l : List Bat} {i : Nat} {b : Bat} (hb : l[i]? = some b) (s : ByteArray)
    (h0 : match keysTo l i s with | none => ∀ j m, j < i → ¬ Hit l s j m | some p => Hit l s p.1 p.2 ∧ p.1 < i ∧ ∀ j m, j < i → Behind j m p.1 p.2 → ¬ Hit l s j m) : ∀ k, k ≤ b.recs.length →
    match keysIn i b.recs (keysTo l i) k s with
    | none => (∀ j m, j < i → ¬ Hit l s j m) ∧ ∀ m, m < k → ¬ Hit l s i m
    | some p => Hit l s p.1 p.2 ∧ (p.1 < i ∨ (p.1 = i ∧ p.2 < k)) ∧ (∀ j m, j < i → Behind j m p.1 p.2 → ¬ Hit l s j m) ∧ ∀ m, m < k → Behind i m p.1 p.2 → ¬ Hit l s i m
  | 0, _ => by
    show match keysTo l i s with | none => _ | some p => _
    cases h : keysTo l i s with
    | none => rw [h] at h0; exact ⟨h0, fun m hm => by omega⟩
    | some p => rw [h] at h0; exact ⟨h0.1, .inl h0.2.1, h0.2.2, fun m hm => by omega⟩
  | k + 1, hk => by
    have ih := keysIn_spec hb s h0 k (by omega)
    obtain ⟨r, hr⟩ := get_of_lt (show k < b.recs.length by omega)
    have hit : Hit l s i k ↔ (r.bare = false ∧ r.key = s) := by
      constructor
      · rintro ⟨b', r', h1, h2, h3, h4⟩
        rw [hb] at h1; injection h1 with h1; subst h1
        rw [hr] at h2; injection h2 with h2; subst h2
        exact ⟨h3, h4⟩
      · rintro ⟨h3, h4⟩; exact ⟨b, r, hb, hr, h3, h4⟩
    by_cases hyes : r.bare = false ∧ r.key = s
    · rw [keysIn_key hr hyes.1]
      simp only [hyes.2, if_true]
      refine ⟨hit.2 hyes, by simp, fun j m hj hB => ?_, fun m hm hB => ?_⟩
      · unfold Behind at hB; omega
      · unfold Behind at hB; omega
    · have hsame : keysIn i b.recs (keysTo l i) (k + 1) s = keysIn i b.recs (keysTo l i) k s := by
        cases hbare : r.bare with
        | true => rw [keysIn_bare hr hbare]
        | false =>
          rw [keysIn_key hr hbare]
          simp only
          rw [if_neg fun e => hyes ⟨hbare, e.symm⟩]
      rw [hsame]
      have hno : ¬ Hit l s i k := fun h => hyes (hit.1 h)
      cases h : keysIn i b.recs (keysTo l i) k s with
      | none =>
        rw [h] at ih
        refine ⟨ih.1, fun m hm => ?_⟩
        by_cases e : m = k
        · subst e; exact hno
        · exact ih.2 m (by omega)
      | some p =>
        rw [h] at ih
        refine ⟨ih.1, by omega, ih.2.2.1, fun m hm hB => ?_⟩
        by_cases e : m = k
        · subst e; exact hno
        · exact ih.2.2.2 m (by omega) hB

theorem keysTo_spec (l : List Bat) (s : ByteArray) : ∀ n, match keysTo l n s with | none => ∀ j m, j < n → ¬ Hit l s j m | some p => Hit l s p.1 p.2 ∧ p.1 < n ∧ ∀ j m, j < n → Behind j m p.1 p.2 → ¬ Hit l s j m
  | 0 => fun j m h => by omega
  | n + 1 => by
    have ih := keysTo_spec l s n
    cases hb : l[n]? with
    | none =>
      have e : keysTo l (n + 1) = keysTo l n := by simp [keysTo, hb]
      rw [e]
      have hno : ∀ m, ¬ Hit l s n m := fun m ⟨b, r, h1, _⟩ => by rw [hb] at h1; cases h1
      cases h : keysTo l n s with
      | none =>
        rw [h] at ih
        intro j m hj
        by_cases e : j = n
        · subst e; exact hno m
        · exact ih j m (by omega)
      | some p =>
        rw [h] at ih
        refine ⟨ih.1, by omega, fun j m hj hB => ?_⟩
        by_cases e : j = n
        · subst e; exact hno m
        · exact ih.2.2 j m (by omega) hB
    | some b =>
      rw [keysTo_next hb]
      have h2 := keysIn_spec hb s ih b.recs.length (Nat.le_refl _)
      have hend : ∀ m, b.recs.length ≤ m → ¬ Hit l s n m := fun m hm ⟨b', r, h1, h3, _⟩ => by
        rw [hb] at h1; injection h1 with h1; subst h1
        have := (List.getElem?_eq_some_iff.1 h3).1; omega
      cases h : keysIn n b.recs (keysTo l n) b.recs.length s with
      | none =>
        rw [h] at h2
        intro j m hj
        by_cases e : j = n
        · subst e
          rcases Nat.lt_or_ge m b.recs.length with hm | hm
          · exact h2.2 m hm
          · exact hend m hm
        · exact h2.1 j m (by omega)
      | some p =>
        rw [h] at h2
        refine ⟨h2.1, by omega, fun j m hj hB => ?_⟩
        by_cases e : j = n
        · subst e
          rcases Nat.lt_or_ge m b.recs.length with hm | hm
          · exact h2.2.2.2 m hm hB
          · exact hend m hm
        · exact h2.2.2.1 j m (by omega) hB

def posOf (l : List Bat) (i k : Nat) : Int := match l[i]? with | some b => (match b.recs[k]? with | some r => b.base + r.at' | none => 0) | none => 0
/-- Where the last record of a key stands. -/
def latOf (l : List Bat) (n : Nat) (s : ByteArray) : Int × Bool := match keysTo l n s with | some p => (posOf l p.1 p.2, true) | none => (0, false)

def latIn (base : Int) (rs : List Rec) (s : ByteArray) (acc : Int × Bool) : Nat → Int × Bool
  | 0 => acc
  | k + 1 => match rs[k]? with
    | some r => if r.bare = false ∧ r.key = s then (base + r.at', true) else latIn base rs s acc k
    | none => latIn base rs s acc k
def latTo (l : List Bat) (s : ByteArray) : Nat → Int × Bool
  | 0 => (0, false)
  | i + 1 => match l[i]? with
    | some b => latIn b.base b.recs s (latTo l s i) b.recs.length
    | none => latTo l s i
theorem latIn_eq {l : List Bat} {i : Nat} {b : Bat} (hb : l[i]? = some b) (s : ByteArray) (h0 : latTo l s i = latOf l i s) : ∀ k, latIn b.base b.recs s (latTo l s i) k = match keysIn i b.recs (keysTo l i) k s with | some p => (posOf l p.1 p.2, true) | none => (0, false)
  | 0 => h0
  | k + 1 => by
    have ih := latIn_eq hb s h0 k
    cases hr : b.recs[k]? with
    | none => simp only [latIn, keysIn, hr]; exact ih
    | some r =>
      by_cases hyes : r.bare = false ∧ r.key = s
      · rw [keysIn_key hr hyes.1]
        simp only [latIn, hr, hyes, and_self, if_true, posOf, hb]
      · have e1 : latIn b.base b.recs s (latTo l s i) (k + 1) = latIn b.base b.recs s (latTo l s i) k := by simp only [latIn, hr, if_neg hyes]
        have e2 : keysIn i b.recs (keysTo l i) (k + 1) s = keysIn i b.recs (keysTo l i) k s := by
          cases hbare : r.bare with
          | true => rw [keysIn_bare hr hbare]
          | false =>
            rw [keysIn_key hr hbare]
            simp only
            rw [if_neg fun e => hyes ⟨hbare, e.symm⟩]
        rw [e1, e2]
        exact ih
theorem latTo_eq (l : List Bat) (s : ByteArray) : ∀ n, latTo l s n = latOf l n s
  | 0 => rfl
  | n + 1 => by
    have ih := latTo_eq l s n
    cases hb : l[n]? with
    | none => simp only [latTo, latOf, keysTo, hb]; exact ih
    | some b =>
      have := latIn_eq hb s ih b.recs.length
      simp only [latOf, keysTo_next hb]
      rw [← this]
      simp only [latTo, hb]

def LatPost (w : World) (p : Int × Bool) (e : Ending) (w' : World) : Prop := e = .returned (.tuple #[.int .i64 p.1, .bool p.2]) ∧ Fr (fun _ => False) w w'

set_option maxRecDepth 100000 in
set_option maxHeartbeats 8000000 in
theorem latest_walk (K : Nat → Prop) (l : List Bat) (s : ByteArray) (v : Value) (w : World) (h : BatsR K w v l) (hg : GoodL l) (hs : s.size ≤ maxLen) :
    Calls Tryd.prog 14 #[v, .string s] w (LatPost w (latOf l l.length s)) := by
  have hh := h
  obtain ⟨oa, cap, rfl, hcl⟩ := hh
  have H := Lib.hid hcl
  have HB := Lib.hid h
  have G := Lib.hid hg
  have hl8 := hg.len
  clear h hg hcl
  have hsp := keysTo_spec l s l.length
  obtain ⟨p0, hp0⟩ : ∃ p0, p0 = latOf l l.length s := ⟨_, rfl⟩
  rw [← hp0]
  unfold latOf at hp0
  obtain ⟨ok, hok⟩ : ∃ ok, ok = keysTo l l.length s := ⟨_, rfl⟩
  rw [← hok] at hp0 hsp
  have HOK := Lib.hid hok
  have HSP := Lib.hid hsp
  have HP0 := Lib.hid hp0
  clear hok hsp hp0
  go_enter Tryd.func14, Tryd.ntmps14
  go_wp2_with fail
  refine (lasts_walk K l _ _ HB.out G.out).mono ?_
  rintro e w1 ⟨kb, ob, rfl, ⟨nk, hkm⟩, -, hkb, hob, hf1⟩
  have look := hkm.look_ok s hs
  rw [← HOK.out] at look
  have hsp := HSP.out
  have hp0 := HP0.out
  have F1 := Lib.hid hf1
  clear hkm hf1 HSP HP0
  cases ok with
  | none =>
    simp only [Option.isSome_none] at look
    dsimp only at hp0
    subst hp0
    clear hsp
    go_wp2_with fail
    go_ret2
    exact ⟨rfl, F1.out.tr (by repeat' (refine Fr.alloc ?_ _); exact Fr.same _)⟩
  | some p =>
    obtain ⟨p1, p2⟩ := p
    obtain ⟨⟨b, r, hb, hr, -, -⟩, -, -⟩ := hsp
    simp only [Option.isSome_some, spotVal] at look
    dsimp only [posOf] at hp0 hb hr
    rw [hb] at hp0
    dsimp only at hp0
    rw [hr] at hp0
    dsimp only at hp0
    subst hp0
    have hlt := (List.getElem?_eq_some_iff.1 hb).1
    have hlt2 := (List.getElem?_eq_some_iff.1 hr).1
    have HG := Lib.hid (G.out.bats b (List.mem_of_getElem? hb))
    have hlen50 := HG.out.len
    obtain ⟨hb0, hb1⟩ := HG.out.base
    obtain ⟨-, -, ha0, ha1⟩ := HG.out.recs r (List.mem_of_getElem? hr)
    obtain ⟨a, rv, rfl, -, hc, hrr⟩ := H.out p1 b hb
    obtain ⟨ra, rcap, rfl, hrr⟩ := hrr
    obtain ⟨a2, hv, rfl, -, hcy, -⟩ := hrr p2 r hr
    have hf2 := F1.out.alloc (.cells #[.int .i64 p1, .int .i64 p2] 69)
    have hf3 := hf2.alloc (.cells (batCells b (.slice (some a2) b.recs.length rcap)).toArray 44)
    obtain ⟨c0, c1, c2, c3, c4, c5⟩ := hc.to (hf2.block _ hc.lt fun h => h)
    have y0 := hf3.cel hcy.c0
    have d0 : ((w1.alloc (.cells #[.int .i64 p1, .int .i64 p2] 69)).alloc (.cells (batCells b (.slice (some a2) b.recs.length rcap)).toArray 44)).cell? ⟨w1.heap.size + 1, 0, none⟩ = some (.int .i64 b.base) := by simp [batCells]
    have d5 : ((w1.alloc (.cells #[.int .i64 p1, .int .i64 p2] 69)).alloc (.cells (batCells b (.slice (some a2) b.recs.length rcap)).toArray 44)).cell? ⟨w1.heap.size + 1, 5, none⟩ = some (.slice (some a2) b.recs.length rcap) := by simp [batCells]
    have d7 : ((w1.alloc (.cells #[.int .i64 p1, .int .i64 p2] 69)).alloc (.cells (batCells b (.slice (some a2) b.recs.length rcap)).toArray 44)).cell? ⟨w1.heap.size, 1, none⟩ = some (.int .i64 p2) :=
      ((Fr.same _).alloc _).cel (cell_alloc_new w1 #[.int .i64 p1, .int .i64 p2] 69 1)
    have F3 := Lib.hid hf3
    unfold batCells at F3 y0 d0 d5 d7
    clear hb hr hc hrr hcy hf2 hf3
    go_wp2_with fail
    clear c0 c1 c2 c3 c4 c5
    go_quiet (fail)
    have F4 := Lib.hid (F3.out.drewN nq)
    clear y0 d0 d5 d7
    go_wp2_with fail
    go_ret2
    exact ⟨rfl, F4.out⟩
end Go.Proofs.YtheddgeefekdlaaDoor
