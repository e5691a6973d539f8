/- What a file of batches opens to: plain laws. -/
import Derived.Test.YtdlnafhhkpklmaaGreatDoorG9
namespace Go.Proofs.YtdlnafhhkpklmaaGreatDoor
open Go.RowKit Go.Fm Go.BigFrame Go.Shelf Go.Maps
set_option linter.unusedVariables false
set_option linter.unusedSimpArgs false

/-- The bytes of batches. -/
def catB (l : List Bat) : ByteArray := l.foldl (fun t b => t ++ batS b) ByteArray.empty
def bl (b : Bat) : List UInt8 := (batS b).data.toList
theorem catB_snoc (l : List Bat) (b : Bat) : catB (l ++ [b]) = catB l ++ batS b := by simp [catB]
theorem bl_len (b : Bat) : (bl b).length = bsz b := size_list _
theorem catB_list (l : List Bat) : (catB l).data.toList = l.flatMap bl := by
  have : ∀ (l : List Bat) (t : ByteArray), (l.foldl (fun t b => t ++ batS b) t).data.toList = t.data.toList ++ l.flatMap bl := by
    intro l
    induction l with
    | nil => intro t; simp
    | cons a l ih => intro t; rw [List.foldl_cons, ih, append_list, List.flatMap_cons, List.append_assoc]; rfl
  have h := this l ByteArray.empty
  rw [show catB l = l.foldl (fun t b => t ++ batS b) ByteArray.empty from rfl, h]
  rfl
theorem flat_bl_len (l : List Bat) : (l.flatMap bl).length = sumB l := by
  induction l with
  | nil => rfl
  | cons a l ih => rw [List.flatMap_cons, List.length_append, ih, bl_len, sumB_cons]
theorem catB_size (l : List Bat) : (catB l).size = sumB l := by rw [← size_list, catB_list, flat_bl_len]
/-- Batches that stand behind one another, ahead of what is none. -/
theorem scan_of {t : ByteArray} : ∀ {l : List Bat} {e : Int} {p : Nat} {tl : List UInt8}, Chn e l → Pt t p (l.flatMap bl ++ tl) → NoBat t (p + sumB l) → Scan t p e l (p + sumB l) := by
  intro l
  induction l with
  | nil => intro e p tl hc hp hn; exact .stop _ _ hn hp.le
  | cons b l ih =>
    intro e p tl hc hp hn
    cases hc with
    | cons hb he hl =>
      rw [List.flatMap_cons, List.append_assoc] at hp
      have hI := batIs_of hb hp
      have h2 := hp.skip
      rw [bl_len] at h2
      have e1 : p + sumB (b :: l) = p + bsz b + sumB l := by rw [sumB_cons]; omega
      rw [e1] at hn ⊢
      exact .next _ _ _ _ _ hb hI he (ih hl h2 hn)
theorem scan_all {l : List Bat} {e : Int} (hc : Chn e l) (hs : sumB l ≤ 900000000) : Scan (catB l) 0 e l (sumB l) := by
  have h := scan_of (t := catB l) (p := 0) (tl := []) hc ⟨Nat.zero_le _, by rw [List.drop_zero, catB_list, List.append_nil]⟩ (noBat_torn (.none (by rw [catB_size]; omega) (by rw [catB_size]; omega)) (by rw [catB_size]; omega))
  rwa [Nat.zero_add] at h
/-- A file that is cut: its first batches, and a part of the next one. -/
theorem cut_at : ∀ (l : List Bat) (n : Nat), n ≤ sumB l → ∃ (k : Nat) (tl : List UInt8), k ≤ l.length ∧ (l.flatMap bl).take n = (l.take k).flatMap bl ++ tl ∧ sumB (l.take k) ≤ n ∧ (∀ j, sumB (l.take j) ≤ n → j ≤ l.length → j ≤ k) ∧ (tl = [] ∨ ∃ b, l[k]? = some b ∧ tl <+: bl b ∧ tl.length < bsz b) := by
  intro l
  induction l with
  | nil => intro n hn; exact ⟨0, [], Nat.le_refl _, by simp, by simp [sumB], fun j _ h => by simpa using h, .inl rfl⟩
  | cons b l ih =>
    intro n hn
    rw [sumB_cons] at hn
    by_cases h : bsz b ≤ n
    · obtain ⟨k, tl, h1, h2, h3, h4, h5⟩ := ih (n - bsz b) (by omega)
      refine ⟨k + 1, tl, by simp; omega, ?_, ?_, fun j hj hl => ?_, ?_⟩
      · rw [List.flatMap_cons, List.take_append, bl_len, List.take_of_length_le (by rw [bl_len]; exact h), h2, List.take_succ_cons, List.flatMap_cons, List.append_assoc]
      · rw [List.take_succ_cons, sumB_cons]; omega
      · cases j with
        | zero => omega
        | succ j =>
          rw [List.take_succ_cons, sumB_cons] at hj
          have := h4 j (by omega) (by simpa using hl)
          omega
      · rcases h5 with h5 | ⟨b', h5, h6⟩
        · exact .inl h5
        · exact .inr ⟨b', by simpa using h5, h6⟩
    · refine ⟨0, (bl b).take n, Nat.zero_le _, ?_, by simp [sumB], fun j hj hl => ?_, .inr ⟨b, rfl, List.take_prefix _ _, by rw [List.length_take]; omega⟩⟩
      · rw [List.flatMap_cons, List.take_append_of_le_length (by rw [bl_len]; omega)]
        rfl
      · cases j with
        | zero => omega
        | succ j => rw [List.take_succ_cons, sumB_cons] at hj; omega
theorem Chn.take {p : Int} {l : List Bat} (h : Chn p l) : ∀ k, Chn p (l.take k) := by
  induction h with
  | nil p => intro k; simp; exact .nil _
  | cons h1 h2 h3 ih => intro k; cases k with
    | zero => exact .nil _
    | succ k => exact .cons h1 h2 (ih k)
/-- A file of batches that is cut opens to its first ones. -/
theorem scan_cut {l : List Bat} {e : Int} (hc : Chn e l) (hs : sumB l ≤ 900000000) {n : Nat} (hn : n ≤ sumB l) :
    ∃ k, k ≤ l.length ∧ Scan ((catB l).extract 0 n) 0 e (l.take k) (sumB (l.take k)) ∧ ∀ j, sumB (l.take j) ≤ n → j ≤ l.length → j ≤ k := by
  obtain ⟨k, tl, h1, h2, h3, h4, h5⟩ := cut_at l n hn
  have hsz : ((catB l).extract 0 n).size = n := by rw [ByteArray.size_extract, catB_size]; omega
  have hl : ((catB l).extract 0 n).data.toList = (l.take k).flatMap bl ++ tl := by rw [extract_list, List.drop_zero, catB_list, h2]
  have hp : Pt ((catB l).extract 0 n) 0 ((l.take k).flatMap bl ++ tl) := ⟨Nat.zero_le _, by rw [List.drop_zero, hl]⟩
  have hp2 := hp.skip
  rw [flat_bl_len, Nat.zero_add] at hp2
  have hno : NoBat ((catB l).extract 0 n) (sumB (l.take k)) := by
    rcases h5 with rfl | ⟨b, hb, h6, h7⟩
    · exact noBat_torn (.none hp2.le (by have h9 := hp2.len; rw [List.length_nil] at h9; omega)) (by omega)
    · exact noBat_torn (torn_of (hc.ok b (List.mem_of_getElem? hb)).1 hp2 h6 h7) (by omega)
  refine ⟨k, h1, ?_, h4⟩
  have h := scan_of (t := (catB l).extract 0 n) (p := 0) (tl := tl) (hc.take k) hp (by rwa [Nat.zero_add])
  rwa [Nat.zero_add] at h
/-- All is read where there is room. -/
theorem pick_all (from' most : Int) : ∀ (l : List Bat) (n : Int) (out : List Bat), (∀ b ∈ l, from' < b.base + b.span) → n + sumB l ≤ most → pick from' most l n out = out ++ l
  | [], n, out, _, _ => by simp [pick]
  | b :: l, n, out, h, hn => by
    rw [sumB_cons] at hn
    have h1 := h b List.mem_cons_self
    rw [pick, if_neg (by omega), if_neg (fun h => by have := h.2; omega), pick_all from' most l _ _ (fun b hb => h b (List.mem_cons_of_mem _ hb)) (by omega), List.append_assoc]
    rfl
end Go.Proofs.YtdlnafhhkpklmaaGreatDoor
