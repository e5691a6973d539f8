/- What the document takes from a commit's record is what 'read' takes: plain laws. -/
import Derived.Test.YtdgdhegbcjimbaaN1
namespace Go.Proofs.Ytdgdhegbcjimbaa
open Go.RowKit Go.Fm Go.BigFrame
set_option linter.unusedVariables false
set_option linter.unusedSimpArgs false

/-- What a text that was taken came from. -/
theorem takeS_ok {s t : ByteArray} {a b : Int} (h : takeS s a 100 = (t, b, 0)) : ∃ p m : Nat, a = p ∧ b = ((p + m : Nat) : Int) ∧ p + m ≤ s.size ∧ (s.data.toList.drop p).take m = (textS t).data.toList := by
  unfold takeS at h
  split at h
  · rename_i h0; injection h with _ h; injection h with _ h; exact absurd h h0
  · rename_i h0
    split at h
    · injection h with _ h; injection h with _ h; cases h
    · rename_i h1
      split at h
      · injection h with _ h; injection h with _ h; cases h
      · rename_i h2
        injection h with h3 h
        injection h with h4 _
        have h0 : (getS s a).2.2 = 0 := by simpa using h0
        have hg : getS s a = ((getS s a).1, (getS s a).2.1, 0) := by rw [← h0]
        obtain ⟨p, k, rfl, hb, hk, hpk, hwf, hput⟩ := getS_ok hg
        generalize (getS s p).1 = n at *
        generalize (getS s p).2.1 = q at *
        subst hb
        obtain ⟨N, rfl⟩ : ∃ N : Nat, n = N := ⟨n.toNat, by omega⟩
        have hN : p + k + N ≤ s.size := by omega
        have e1 : ((p + k : Nat) : Int).toNat = p + k := Int.toNat_natCast _
        have e2 : (((p + k : Nat) : Int) + (N : Int)).toNat = p + k + N := by omega
        rw [e1, e2] at h3
        have ht : t.data.toList = (s.data.toList.drop (p + k)).take N := by
          rw [← h3, extract_list, List.drop_take]
          congr 1; omega
        have hts : t.size = N := by
          have := congrArg List.length ht
          rw [size_list, List.length_take, List.length_drop, size_list] at this
          omega
        refine ⟨p, k + N, rfl, by rw [← h4]; omega, by omega, ?_⟩
        unfold textS
        rw [append_list, putS_list, hts, hput, ht, ← List.drop_drop, List.take_add]
/-- A key that reads back is told by the same text. -/
theorem key_told {key : ByteArray} {g t : ByteArray} {i b1 b2 : Int} (h1 : takeS key 0 100 = (g, b1, 0)) (h2 : takeS key b1 100 = (t, b2, 0)) (h3 : getS key b2 = (i, (key.size : Int), 0)) : keyS ⟨g, t, i⟩ = key := by
  obtain ⟨p, m, e1, e2, e3, e4⟩ := takeS_ok h1
  obtain ⟨p', m', e1', e2', e3', e4'⟩ := takeS_ok h2
  obtain ⟨p'', k, e5, e6, e7, e8, e9, e10⟩ := getS_ok h3
  obtain rfl : p = 0 := by omega
  obtain rfl : p' = m := by omega
  obtain rfl : p'' = p' + m' := by omega
  apply bytes_ext
  unfold keyS
  rw [append_list, append_list, ← e4, ← e4', putS_list, e10, List.drop_zero]
  have hk : k = key.size - (p' + m') := by omega
  have e11 : (key.data.toList.drop (p' + m')).take k = key.data.toList.drop (p' + m') := List.take_of_length_le (by rw [List.length_drop, size_list]; omega)
  rw [e11, ← List.drop_drop, List.append_assoc, List.take_append_drop, List.take_append_drop]
/-- What the document's Apply asks of a record. -/
def rdDoc (r : Rec) (n : Nat) : Bool :=
  let A := takeS r.key 0 100; let B := takeS r.key A.2.1 100; let C := getS r.key B.2.1; let D := getS r.val 0
  decide (A.2.2 = 0 ∧ B.2.2 = 0) && decide (C.2.2 = 0 ∧ C.2.1 = (r.key.size : Int)) && mayB ⟨A.1, B.1, C.1⟩ && !r.bare && decide (r.at' = 0) && decide (n = 0) && withinB r.tm 0 &&
    (if r.gone = true then decide (r.val.size = 0) else decide (D.2.2 = 0 ∧ D.2.1 = (r.val.size : Int)) && withinB D.1 0)
theorem t3 {α β : Type} {x : α × β × Int} (h : x.2.2 = 0) : x = (x.1, x.2.1, 0) := by
  obtain ⟨a, b, c⟩ := x
  dsimp only at h
  rw [h]
theorem beq_int0 (a b : Int) : (a == b) = decide (a = b) := by
  by_cases h : a = b <;> simp [h]
theorem rd_doc (r : Rec) (n : Nat) : (rdS r n).2.2 = rdDoc r n := by
  rw [Bool.eq_iff_iff]
  unfold rdS rdDoc
  dsimp only
  by_cases hg : r.gone = true
  · rw [if_pos hg, if_pos hg]
    unfold rdGone rdOK
    dsimp only
    simp only [Bool.and_eq_true, beq_iff_eq, decide_eq_true_eq, Bool.not_eq_true']
    constructor
    · rintro ⟨⟨⟨⟨⟨⟨⟨a0, b0⟩, c0⟩, -⟩, f0⟩, ⟨⟨⟨c1, v0⟩, n0⟩, br⟩, at0⟩, -⟩, hk⟩
      have he : entB ⟨(takeS r.key 0 100).1, (takeS r.key (takeS r.key 0 100).2.1 100).1, (getS r.key (takeS r.key (takeS r.key 0 100).2.1 100).2.1).1⟩ (-1) r.tm = true := by
        unfold entS at f0
        split at f0
        · assumption
        · cases f0
      simp only [entB, Bool.and_eq_true] at he
      exact ⟨⟨⟨⟨⟨⟨⟨⟨a0, b0⟩, c0, c1⟩, he.1.1⟩, br⟩, at0⟩, n0⟩, he.2⟩, by omega⟩
    · rintro ⟨⟨⟨⟨⟨⟨⟨⟨a0, b0⟩, c0, c1⟩, hm⟩, br⟩, at0⟩, n0⟩, htm⟩, hv⟩
      have he : entB ⟨(takeS r.key 0 100).1, (takeS r.key (takeS r.key 0 100).2.1 100).1, (getS r.key (takeS r.key (takeS r.key 0 100).2.1 100).2.1).1⟩ (-1) r.tm = true := by
        simp only [entB, Bool.and_eq_true]; exact ⟨⟨hm, by kernel_rfl⟩, htm⟩
      have hE : entS ⟨(takeS r.key 0 100).1, (takeS r.key (takeS r.key 0 100).2.1 100).1, (getS r.key (takeS r.key (takeS r.key 0 100).2.1 100).2.1).1⟩ (-1) r.tm = (entR ⟨(takeS r.key 0 100).1, (takeS r.key (takeS r.key 0 100).2.1 100).1, (getS r.key (takeS r.key (takeS r.key 0 100).2.1 100).2.1).1⟩ (-1) r.tm, 0) := by unfold entS; rw [if_pos he]
      rw [hE]
      have hkey := key_told (key := r.key) (g := (takeS r.key 0 100).1) (t := (takeS r.key (takeS r.key 0 100).2.1 100).1) (i := (getS r.key (takeS r.key (takeS r.key 0 100).2.1 100).2.1).1) (b1 := (takeS r.key 0 100).2.1) (b2 := (takeS r.key (takeS r.key 0 100).2.1 100).2.1)
        (t3 a0) (t3 b0) (by rw [← c1]; exact t3 c0)
      refine ⟨⟨⟨⟨⟨⟨⟨a0, b0⟩, c0⟩, trivial⟩, rfl⟩, ⟨⟨⟨c1, by omega⟩, n0⟩, br⟩, at0⟩, by decide⟩, ?_⟩
      show (keyS _).toList = r.key.toList
      rw [hkey]
  · rw [if_neg hg, if_neg hg]
    unfold rdKeep rdOK
    dsimp only
    simp only [Bool.and_eq_true, beq_iff_eq, decide_eq_true_eq, Bool.not_eq_true']
    constructor
    · rintro ⟨⟨⟨⟨⟨⟨⟨a0, b0⟩, c0⟩, d0⟩, f0⟩, ⟨⟨⟨c1, v0⟩, n0⟩, br⟩, at0⟩, hpos⟩, hk⟩
      have he : entB ⟨(takeS r.key 0 100).1, (takeS r.key (takeS r.key 0 100).2.1 100).1, (getS r.key (takeS r.key (takeS r.key 0 100).2.1 100).2.1).1⟩ (getS r.val 0).1 r.tm = true := by
        unfold entS at f0
        split at f0
        · assumption
        · cases f0
      simp only [entB, Bool.and_eq_true] at he
      refine ⟨⟨⟨⟨⟨⟨⟨⟨a0, b0⟩, c0, c1⟩, he.1.1⟩, br⟩, at0⟩, n0⟩, he.2⟩, ⟨d0, v0⟩, ?_⟩
      have := he.1.2
      simp [withinB] at this ⊢
      omega
    · rintro ⟨⟨⟨⟨⟨⟨⟨⟨a0, b0⟩, c0, c1⟩, hm⟩, br⟩, at0⟩, n0⟩, htm⟩, ⟨d0, v0⟩, hw⟩
      have hw2 : 0 ≤ (getS r.val 0).1 ∧ (getS r.val 0).1 ≤ 1099511627776 := by simpa [withinB] using hw
      have he : entB ⟨(takeS r.key 0 100).1, (takeS r.key (takeS r.key 0 100).2.1 100).1, (getS r.key (takeS r.key (takeS r.key 0 100).2.1 100).2.1).1⟩ (getS r.val 0).1 r.tm = true := by
        simp only [entB, Bool.and_eq_true]; exact ⟨⟨hm, by simp [withinB]; omega⟩, htm⟩
      have hE : entS ⟨(takeS r.key 0 100).1, (takeS r.key (takeS r.key 0 100).2.1 100).1, (getS r.key (takeS r.key (takeS r.key 0 100).2.1 100).2.1).1⟩ (getS r.val 0).1 r.tm = (entR ⟨(takeS r.key 0 100).1, (takeS r.key (takeS r.key 0 100).2.1 100).1, (getS r.key (takeS r.key (takeS r.key 0 100).2.1 100).2.1).1⟩ (getS r.val 0).1 r.tm, 0) := by unfold entS; rw [if_pos he]
      rw [hE]
      have hkey := key_told (key := r.key) (g := (takeS r.key 0 100).1) (t := (takeS r.key (takeS r.key 0 100).2.1 100).1) (i := (getS r.key (takeS r.key (takeS r.key 0 100).2.1 100).2.1).1) (b1 := (takeS r.key 0 100).2.1) (b2 := (takeS r.key (takeS r.key 0 100).2.1 100).2.1)
        (t3 a0) (t3 b0) (by rw [← c1]; exact t3 c0)
      refine ⟨⟨⟨⟨⟨⟨⟨a0, b0⟩, c0⟩, d0⟩, rfl⟩, ⟨⟨⟨c1, v0⟩, n0⟩, br⟩, at0⟩, hw2.1⟩, ?_⟩
      show (keyS _).toList = r.key.toList
      rw [hkey]
end Go.Proofs.Ytdgdhegbcjimbaa
