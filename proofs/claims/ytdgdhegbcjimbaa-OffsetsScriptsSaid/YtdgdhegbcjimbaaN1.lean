/- A commit told as a record reads back as itself: plain laws. -/
import Derived.Test.YtdgdhegbcjimbaaT6
namespace Go.Proofs.Ytdgdhegbcjimbaa
open Go.RowKit Go.Fm Go.BigFrame
set_option linter.unusedVariables false
set_option linter.unusedSimpArgs false

theorem putL_pos (m : Nat) : 1 ≤ (putL m).length := by
  rw [putL]; split <;> simp
theorem lead_putL (rest : List UInt8) : ∀ (f m : Nat), (putL m).length ≤ f → lead f (putL m ++ rest) = (putL m).length - 1 := by
  intro f
  induction f with
  | zero => intro m h; have := putL_pos m; omega
  | succ f ih =>
    intro m h
    by_cases hm : m < 128
    · rw [putL_small hm]
      simp only [List.cons_append, List.nil_append, lead, List.length_cons, List.length_nil]
      rw [dig_toNat (by omega), if_neg (by omega)]
    · rw [putL_big (by omega)] at h ⊢
      simp only [List.length_cons] at h
      simp only [List.cons_append, lead, List.length_cons]
      rw [dig_toNat (by omega), if_pos (by omega), ih (m / 128) (by omega)]
      have := putL_pos (m / 128)
      omega
theorem unzig_zig (n : Int) : unzig (zig n) = n := by
  unfold unzig zig
  split <;> split <;> omega
theorem putL_ten {n : Int} (h : (Lit.int .i64 n).wf = true) : (putL (zig n)).length ≤ 10 :=
  putL_len 9 (zig n) (Nat.lt_of_lt_of_le (zig_lt h) (by decide))
theorem refV_putL {n : Int} (h : (Lit.int .i64 n).wf = true) (rest : List UInt8) : refV (putL (zig n) ++ rest) = (n, (putL (zig n)).length, 0) := by
  have h10 := putL_ten h
  have h1 := putL_pos (zig n)
  have hl := lead_putL rest 10 (zig n) h10
  have hz := zig_lt h
  unfold refV
  dsimp only
  rw [hl, if_neg (by omega), if_neg (by simp; omega)]
  have e : (putL (zig n)).length - 1 + 1 = (putL (zig n)).length := by omega
  rw [e]
  have e2 : (putL (zig n) ++ rest).take (putL (zig n)).length = putL (zig n) := by simp
  rw [e2, val_putL, Nat.mod_eq_of_lt hz, if_pos rfl, unzig_zig]
theorem getS_put {s : ByteArray} {p : Nat} {n : Int} {rest : List UInt8} (h : (Lit.int .i64 n).wf = true) (hp : p ≤ s.size) (hs : s.data.toList.drop p = putL (zig n) ++ rest) :
    getS s p = (n, ((p + (putL (zig n)).length : Nat) : Int), 0) := by
  rw [getS_of s p hp (n := n) (k := (putL (zig n)).length) (c := 0) (by rw [getV_eq, hs]; exact refV_putL h rest), if_pos rfl, Int.natCast_add]
theorem putS_list (n : Int) : (putS n).data.toList = putL (zig n) := rfl
theorem size_list (s : ByteArray) : s.data.toList.length = s.size := Array.length_toList
theorem putS_len (n : Int) : (putS n).size = (putL (zig n)).length := by
  have := congrArg List.length (putS_list n)
  rw [size_list] at this
  exact this
theorem append_list (a b : ByteArray) : (a ++ b).data.toList = a.data.toList ++ b.data.toList := by simp
theorem bytes_ext {a b : ByteArray} (h : a.data.toList = b.data.toList) : a = b := by
  cases a; cases b
  simpa using congrArg List.toArray h
theorem extract_list (s : ByteArray) (i j : Nat) : (s.extract i j).data.toList = (s.data.toList.take j).drop i := by
  simp [ByteArray.data_extract, Array.toList_extract, List.extract, List.drop_take]
theorem takeS_text {s t : ByteArray} {p : Nat} {rest : List UInt8} (ht : t.size ≤ 100) (hp : p ≤ s.size) (hs : s.data.toList.drop p = (textS t).data.toList ++ rest) :
    takeS s p 100 = (t, ((p + (textS t).size : Nat) : Int), 0) := by
  have hwf : (Lit.int .i64 (t.size : Int)).wf = true := len_wf (by omega)
  have hs' : s.data.toList.drop p = putL (zig t.size) ++ (t.data.toList ++ rest) := by
    rw [hs]; unfold textS; rw [append_list, putS_list, List.append_assoc]
  have hg := getS_put hwf hp hs'
  have hsz : (textS t).size = (putL (zig t.size)).length + t.size := by unfold textS; rw [ByteArray.size_append, putS_len]
  have hlen : s.size = p + ((textS t).size + rest.length) := by
    have := congrArg List.length hs
    rw [List.length_drop, List.length_append, size_list, size_list] at this
    omega
  unfold takeS
  rw [hg]
  dsimp only
  rw [if_neg (by simp), if_neg (by omega), if_neg (by omega)]
  have e1 : ((p + (putL (zig t.size)).length : Nat) : Int).toNat = p + (putL (zig t.size)).length := Int.toNat_natCast _
  have e2 : (((p + (putL (zig t.size)).length : Nat) : Int) + (t.size : Int)).toNat = p + (putL (zig t.size)).length + t.size := by omega
  rw [e1, e2]
  congr 1
  · apply bytes_ext
    have e3 : s.data.toList.drop (p + (putL (zig t.size)).length) = t.data.toList ++ rest := by
      rw [← List.drop_drop, hs', List.drop_append_of_le_length (Nat.le_refl _), List.drop_length, List.nil_append]
    rw [extract_list, List.drop_take, e3]
    have e4 : p + (putL (zig t.size)).length + t.size - (p + (putL (zig t.size)).length) = t.data.toList.length := by rw [size_list]; omega
    rw [e4, List.take_append_of_le_length (Nat.le_refl _), List.take_length]
  · rw [hsz]; simp; omega
theorem drop_add {l a b : List UInt8} {p : Nat} (h : l.drop p = a ++ b) : l.drop (p + a.length) = b := by
  rw [← List.drop_drop, h, List.drop_append_of_le_length (Nat.le_refl _), List.drop_length, List.nil_append]
theorem le_of_drop {s : ByteArray} {a b : List UInt8} {p : Nat} (hp : p ≤ s.size) (h : s.data.toList.drop p = a ++ b) : p + a.length ≤ s.size := by
  have := congrArg List.length h
  rw [List.length_drop, List.length_append, size_list] at this
  omega
/-- What a key told as a text reads back as. -/
theorem key_reads {k : Key} (hm : mayB k = true) : takeS (keyS k) 0 100 = (k.g, ((textS k.g).size : Int), 0) ∧ takeS (keyS k) ((textS k.g).size : Int) 100 = (k.t, (((textS k.g).size + (textS k.t).size : Nat) : Int), 0) ∧
    getS (keyS k) (((textS k.g).size + (textS k.t).size : Nat) : Int) = (k.i, ((keyS k).size : Int), 0) := by
  have hk := may_ok hm
  simp [mayB, nameB] at hm
  obtain ⟨⟨⟨⟨h1, h2⟩, h3, h4⟩, h5⟩, h6⟩ := hm
  have h0 : (keyS k).data.toList.drop 0 = (textS k.g).data.toList ++ ((textS k.t).data.toList ++ putL (zig k.i)) := by
    unfold keyS
    rw [List.drop_zero, append_list, append_list, putS_list, List.append_assoc]
  have g1 : (keyS k).data.toList.drop (0 + (textS k.g).data.toList.length) = (textS k.t).data.toList ++ putL (zig k.i) := drop_add h0
  have l1 := le_of_drop (Nat.zero_le _) h0
  have g2 := drop_add g1
  have l2 := le_of_drop l1 g1
  rw [size_list, Nat.zero_add] at g1 l1 g2 l2
  rw [size_list] at g2 l2
  have hsz : (keyS k).size = (textS k.g).size + (textS k.t).size + (putL (zig k.i)).length := by unfold keyS; rw [ByteArray.size_append, ByteArray.size_append, putS_len]
  refine ⟨?_, ?_, ?_⟩
  · have := takeS_text (s := keyS k) (t := k.g) (p := 0) h2 (Nat.zero_le _) h0
    rw [Nat.zero_add] at this
    exact this
  · exact takeS_text (s := keyS k) (t := k.t) h4 l1 g1
  · rw [getS_put (rest := []) hk.i l2 (by rw [g2, List.append_nil]), hsz]
theorem keep_entR {k : Key} {a tm : Int} (h : entB k a tm = true) (ha : a ≠ -1) : rdS (entR k a tm) 0 = (k, a, true) := by
  have hE : entS k a tm = (entR k a tm, 0) := by unfold entS; rw [if_pos h]
  simp only [entB, Bool.and_eq_true] at h
  obtain ⟨⟨hm, hw⟩, ht⟩ := h
  have hw2 : 0 ≤ a ∧ a ≤ 1099511627776 := by simp [withinB] at hw; omega
  have hwf : (Lit.int .i64 a).wf = true := by simp [Lit.wf, IntKind.min, IntKind.max, IntKind.signed, IntKind.bits]; omega
  obtain ⟨A, B, C⟩ := key_reads hm
  have D : getS (putS a) 0 = (a, ((putS a).size : Int), 0) := by
    have := getS_put (s := putS a) (p := 0) (rest := []) hwf (Nat.zero_le _) (by rw [List.drop_zero, List.append_nil]; rfl)
    rw [Nat.zero_add, ← putS_len] at this
    exact this
  unfold rdS
  have e0 : (entR k a tm).gone = false := by simp [entR, ha]
  have e1 : (entR k a tm).key = keyS k := rfl
  have e2 : (entR k a tm).val = putS a := by simp [entR, ha]
  have e3 : (entR k a tm).tm = tm := rfl
  have e4 : (entR k a tm).bare = false := rfl
  have e5 : (entR k a tm).at' = 0 := rfl
  rw [e0, if_neg (by decide)]
  unfold rdKeep
  rw [e1, e2, e3, e4, e5, A]
  dsimp only
  rw [B]
  dsimp only
  rw [C]
  dsimp only
  rw [D]
  dsimp only
  have hk : (⟨k.g, k.t, k.i⟩ : Key) = k := rfl
  rw [hk, hE]
  dsimp only
  rw [e1]
  simp [rdOK]
  exact hw2.1
end Go.Proofs.Ytdgdhegbcjimbaa
