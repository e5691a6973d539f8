/- The document's table: its rows; key, ahead, find, Get: the walks. -/
import Derived.Test.YtdgdhegbcjimbaaD1
import Derived.Test.YtdgdhegbcjimbaaR3
namespace Go.Proofs.Ytdgdhegbcjimbaa
open Go.RowKit Go.Fm Go.BigFrame
set_option linter.unusedVariables false
set_option linter.unusedSimpArgs false

def RTakePost (s : ByteArray) (a most : Int) (w : World) (e : Ending) (w' : World) : Prop :=
  e = .returned (.tuple #[.string (takeS s a most).1, .int .i64 (takeS s a most).2.1, .int .i64 (takeS s a most).2.2]) ∧ Fr (fun _ => False) w w'
set_option maxHeartbeats 4000000 in
theorem rtake_walk (s : ByteArray) (a most : Int) (w : World) (hs : s.size ≤ maxLen) : Calls Try.prog 52 #[.string s, .int .i64 a, .int .i64 most] w (RTakePost s a most w) := by
  have hs9 : s.size ≤ 9223372036854775807 := by unfold maxLen at hs; omega
  have hcall := rget_walk s a w hs
  unfold RGetPost at hcall
  have HT : Hid (takeS s a most = if (getS s a).2.2 ≠ 0 then (ByteArray.empty, 0, (getS s a).2.2)
      else if (getS s a).1 < 0 ∨ most < (getS s a).1 then (ByteArray.empty, 0, 3)
      else if (s.size : Int) - (getS s a).2.1 < (getS s a).1 then (ByteArray.empty, 0, 2)
      else (s.extract (getS s a).2.1.toNat ((getS s a).2.1 + (getS s a).1).toNat, (getS s a).2.1 + (getS s a).1, 0)) := Lib.hid rfl
  rcases getS_code s a with ⟨n, b, hg⟩ | ⟨c, hg, hc1, hc2⟩
  · obtain ⟨p, k, rfl, rfl, hk1, hk2, hwf, -⟩ := getS_ok hg
    rw [hg] at hcall HT
    have HC := Lib.hid hcall
    clear hcall hg
    dsimp only at HC HT
    simp only [ne_eq, not_true_eq_false, if_false] at HT
    have hb := hwf
    simp [Lit.wf, IntKind.min, IntKind.max, IntKind.signed, IntKind.bits] at hb
    obtain ⟨hb1, hb2⟩ := hb
    clear hwf hs
    by_cases h1 : n < 0 ∨ most < n
    · have ht := HT.out
      rw [if_pos h1] at ht
      have HR := Lib.hid ht
      clear ht HT
      rcases h1 with h1 | h1
      · go_enter Try.func52, Try.ntmps52
        go_wp2_with (go_at_call 53; refine HC.out.mono ?_; rintro e w' ⟨rfl, hf⟩)
        go_ret3
        exact ⟨by rw [HR.out]; rfl, hf⟩
      · by_cases h0 : n < 0
        all_goals
          go_enter Try.func52, Try.ntmps52
          go_wp2_with (go_at_call 53; refine HC.out.mono ?_; rintro e w' ⟨rfl, hf⟩)
          go_ret3
          exact ⟨by rw [HR.out]; rfl, hf⟩
    · have h0 : ¬ n < 0 := fun h => h1 (.inl h)
      have h2 : ¬ most < n := fun h => h1 (.inr h)
      obtain ⟨m, rfl⟩ : ∃ m : Nat, n = m := ⟨n.toNat, by omega⟩
      by_cases h3 : (s.size : Int) - ((p + k : Nat) : Int) < m
      · have ht := HT.out
        rw [if_neg h1, if_pos h3] at ht
        have HR := Lib.hid ht
        clear ht HT h1
        go_enter Try.func52, Try.ntmps52
        go_wp2_with (go_at_call 53; refine HC.out.mono ?_; rintro e w' ⟨rfl, hf⟩)
        go_ret3
        exact ⟨by rw [HR.out]; rfl, hf⟩
      · have ht := HT.out
        rw [if_neg h1, if_neg h3] at ht
        have HR := Lib.hid ht
        clear ht HT h1
        go_enter Try.func52, Try.ntmps52
        go_wp2_with (go_at_call 53; refine HC.out.mono ?_; rintro e w' ⟨rfl, hf⟩)
        go_ret3
        exact ⟨by rw [HR.out]; rfl, hf⟩
  · rw [hg] at hcall HT
    have HC := Lib.hid hcall
    have ht := HT.out
    dsimp only at ht
    rw [if_pos (by omega)] at ht
    have HR := Lib.hid ht
    clear hcall hg hs ht HT
    have hq : ((c : Int) == 0) = false := by simp; omega
    have hq' : (c != 0) = true := by simp; omega
    go_enter Try.func52, Try.ntmps52
    go_wp2_with (go_at_call 53; refine HC.out.mono ?_; rintro e w' ⟨rfl, hf⟩)
    go_ret3
    exact ⟨by rw [HR.out]; rfl, hf⟩
theorem rkey_walk (k : Key) (b : Bool) (hb : mayB k = b) (w : World) : Calls Try.prog 48 #[.string k.g, .agg #[.string k.t, .int .i64 k.i]] w fun e w' => e = .returned (.bool b) ∧ Fr (fun _ => False) w w' := by
  have HB := Lib.hid hb
  clear hb
  obtain ⟨g, t, i⟩ := k
  go_enter Try.func48, Try.ntmps48
  go_wp2_with fail
  all_goals go_ret
  all_goals (refine ⟨(congrArg (fun b => Ending.returned (Value.bool b)) ?_ : _ = _), (Fr.same w).alloc _⟩; rw [← HB.out, Bool.eq_iff_iff]; simp only [mayB, nameB, Bool.and_eq_true, decide_eq_true_eq, Bool.false_eq_true, false_iff]; omega)
def rowC (r : Row) : List Value := [.string r.1.g, .string r.1.t, .int .i64 r.1.i, .int .i64 r.2]
theorem rowC_len (r : Row) : (rowC r).length = 4 := rfl
theorem rowC_flat (L : List Row) : (L.flatMap rowC).length = L.length * 4 := by
  induction L with
  | nil => rfl
  | cons x r ih => simp [rowC_len, ih]; omega
instance : Inhabited Row := ⟨(default, 0)⟩
theorem rowC_get : ∀ (L : List Row) (k j : Nat) (r : Row), L[k]? = some r → j < 4 → (L.flatMap rowC)[k * 4 + j]? = (rowC r)[j]?
  | [], k, j, r, h, _ => by simp at h
  | x :: L, 0, j, r, h, hj => by
    simp at h
    subst h
    rw [List.flatMap_cons, List.getElem?_append_left (by rw [rowC_len]; omega)]
    congr 1; omega
  | x :: L, k + 1, j, r, h, hj => by
    rw [List.flatMap_cons, List.getElem?_append_right (by rw [rowC_len]; omega), rowC_len]
    have e : (k + 1) * 4 + j - 4 = k * 4 + j := by omega
    rw [e]
    exact rowC_get L k j r (by simpa using h) hj
/-- The document's table: its block kb, the value of its rows. -/
structure RTbl (w : World) (B kb : Nat) (v : Value) (room : Int) (L : List Row) : Prop where
  cells : w.heap[kb]? = some (.cells #[.int .i64 room, v] 51 (0, 0))
  rows : w.ownsRow B 77 4 v L.length (L.flatMap rowC)
  len : L.length ≤ 10000
  base : B ≤ kb
theorem RTbl.slice {w : World} {B kb : Nat} {v : Value} {room : Int} {L : List Row} (h : RTbl w B kb v room L) : ∃ oa cap, v = .slice oa L.length cap := by
  obtain ⟨a, cap, h1, -⟩ := own_slice h.rows
  exact ⟨a, cap, h1⟩
theorem RTbl.at {w : World} {B kb : Nat} {oa : Option Addr} {n cap : Nat} {room : Int} {L : List Row} (h : RTbl w B kb (.slice oa n cap) room L) {k : Nat} {r : Row} (hk : L[k]? = some r) :
    ∃ g, oa = some ⟨g, 0, none⟩ ∧ B ≤ g ∧ g ≠ kb ∧ w.cell? ⟨g, k * 4, none⟩ = some (.string r.1.g) ∧ w.cell? ⟨g, k * 4 + 1, none⟩ = some (.string r.1.t) ∧ w.cell? ⟨g, k * 4 + 2, none⟩ = some (.int .i64 r.1.i) ∧ w.cell? ⟨g, k * 4 + 3, none⟩ = some (.int .i64 r.2) := by
  have hlt : k < L.length := (List.getElem?_eq_some_iff.1 hk).1
  rcases h.rows.2 with ⟨h0, h1⟩ | ⟨g, cap', cur, hv, hb, hg, h1, h2, h3, h4⟩
  · omega
  · injection hv with e1 e2 e3
    subst e1 e3
    have hc : ∀ j, j < 4 → w.cell? ⟨g, k * 4 + j, none⟩ = (rowC r)[j]? := fun j hj => by
      rw [cell_of hg, ← rowC_get L k j r hk hj, ← h4, List.getElem?_take_of_lt (by omega)]
      simp
    refine ⟨g, rfl, hb, ?_, (hc 0 (by omega)).trans rfl, (hc 1 (by omega)).trans rfl, (hc 2 (by omega)).trans rfl, (hc 3 (by omega)).trans rfl⟩
    rintro rfl
    rw [h.cells] at hg
    injection hg with hg
    injection hg with _ e _
    exact absurd e (by decide)
theorem RTbl.old {w w' : World} {B kb : Nat} {v : Value} {room : Int} {L : List Row} (h : RTbl w B kb v room L) (hf : Fr (fun _ => False) w w') : RTbl w' B kb v room L :=
  ⟨(hf.block kb (lt_of_heap h.cells) fun h => h).trans h.cells, own_eq h.rows fun k hk => hf.block k (own_lt h.rows hk).2 fun h => h, h.len, h.base⟩

/-- Where a key's row is: -1: nowhere. -/
def fidx (L : List Row) (k : Key) : Int := match L.findIdx? (fun r => r.1 = k) with | some j => j | none => -1
theorem fidx_cases (L : List Row) (k : Key) : (getL L k = none ∧ fidx L k = -1) ∨ (∃ (j : Nat) (a : Int), fidx L k = j ∧ L[j]? = some (k, a) ∧ getL L k = some a) := by
  unfold fidx getL
  induction L with
  | nil => exact .inl ⟨rfl, rfl⟩
  | cons x r ih =>
    by_cases hx : x.1 = k
    · refine .inr ⟨0, x.2, ?_, ?_, ?_⟩
      · simp [List.findIdx?_cons, hx]
      · simp [← hx]
      · simp [List.find?_cons, hx]
    · rcases ih with ⟨h1, h2⟩ | ⟨j, a, h1, h2, h3⟩
      · refine .inl ⟨by simpa [List.find?_cons, hx] using h1, ?_⟩
        cases hf : r.findIdx? (fun r => r.1 = k) with
        | none => simp [List.findIdx?_cons, hx, hf]
        | some j => rw [hf] at h2; simp at h2
      · refine .inr ⟨j + 1, a, ?_, by simpa using h2, by simpa [List.find?_cons, hx] using h3⟩
        cases hf : r.findIdx? (fun r => r.1 = k) with
        | none => rw [hf] at h1; simp at h1
        | some j' => rw [hf] at h1; simp at h1; simp [List.findIdx?_cons, hx, hf]; omega
theorem fidx_at {L : List Row} {k : Key} {j : Nat} {a : Int} (h : L[j]? = some (k, a)) (hb : ∀ i r, i < j → L[i]? = some r → r.1 ≠ k) : fidx L k = j := by
  have hlt := (List.getElem?_eq_some_iff.1 h)
  obtain ⟨h1, h2⟩ := hlt
  have : L.findIdx? (fun r => decide (r.1 = k)) = some j := by
    rw [List.findIdx?_eq_some_iff_getElem]
    refine ⟨h1, by rw [h2]; simp, fun i hi => ?_⟩
    have := hb i L[i] hi (List.getElem?_eq_getElem (by omega))
    simpa using this
  unfold fidx
  rw [this]
theorem fidx_no {L : List Row} {k : Key} (h : ∀ (i : Nat) (r : Row), L[i]? = some r → r.1 ≠ k) : fidx L k = -1 := by
  have : L.findIdx? (fun r => decide (r.1 = k)) = none := by
    rw [List.findIdx?_eq_none_iff]
    intro x hx
    obtain ⟨i, hi, rfl⟩ := List.getElem_of_mem hx
    simpa using h i L[i] (List.getElem?_eq_getElem hi)
  unfold fidx
  rw [this]
set_option maxHeartbeats 8000000 in
theorem find_walk (k : Key) (B kb : Nat) (v : Value) (room : Int) (L : List Row) (w : World) (h : RTbl w B kb v room L) :
    Calls Try.prog 49 #[.pointer (some ⟨kb, 0, none⟩), .string k.g, .agg #[.string k.t, .int .i64 k.i]] w fun e w' => e = .returned (.int .i64 (fidx L k)) ∧ Fr (fun _ => False) w w' := by
  obtain ⟨oa, cap, rfl⟩ := h.slice
  have hf0 := (Fr.same w).alloc (.cells #[.string k.t, .int .i64 k.i] 29)
  have H := Lib.hid (h.old hf0)
  have F0 := Lib.hid hf0
  have P0 := Lib.hid (cell_alloc_new w #[.string k.t, .int .i64 k.i] 29 0)
  have P1 := Lib.hid (cell_alloc_new w #[.string k.t, .int .i64 k.i] 29 1)
  have hlen := h.len
  clear h hf0
  go_enter Try.func49, Try.ntmps49
  go_wp2_with fail
  generalize (w.alloc (.cells #[.string k.t, .int .i64 k.i] 29)) = W0 at *
  go_loopw [7] (fun iv wr => ∃ i : Nat, iv = .int .i64 i ∧ i ≤ L.length ∧ (∀ j r, j < i → L[j]? = some r → r.1 ≠ k) ∧ Fr (fun _ => False) W0 wr) (fun iv _ => L.length - (intOf iv).toNat)
  case atStart => exact ⟨0, rfl, Nat.zero_le _, fun j r hj => by omega, Fr.same _⟩
  case round =>
    obtain ⟨i, rfl, hi, hno, hf⟩ := hrel
    have NO := Lib.hid hno
    have F := Lib.hid hf
    have HR := Lib.hid (H.out.old hf)
    have e1 := (cell_of HR.out.cells 1).trans rfl
    simp at e1
    have p0 := hf.cel P0.out
    have p1 := hf.cel P1.out
    simp at p0 p1
    clear hno hf
    rcases Nat.lt_or_ge i L.length with hlt | hge
    · obtain ⟨x, hx⟩ := get_of_lt hlt
      obtain ⟨g, rfl, -, -, c0, c1, c2, c3⟩ := HR.out.at hx
      have HX := Lib.hid hx
      have heq := eql29 x.1.t k.t x.1.i k.i
      by_cases hg : x.1.g = k.g
      · have q1 : (x.1.g.toList == k.g.toList) = true := by rw [strEq]; simp [hg]
        by_cases hti : x.1.t = k.t ∧ x.1.i = k.i
        · have q2 : (x.1.t.toList == k.t.toList && x.1.i == k.i) = true := by rw [strEq]; simp [hti]
          rw [q2] at heq
          have hk : x.1 = k := by obtain ⟨⟨a, b, c⟩, d⟩ := x; obtain ⟨a', b', c'⟩ := k; simp_all
          have hfi := fidx_at (a := x.2) (by rw [HX.out, ← hk]) NO.out
          have HF := Lib.hid hfi
          clear hg hti q2 hk hfi
          go_wp2_with fail
          go_quiet (fail)
          clear heq
          go_wp2_with fail
          go_ret
          exact ⟨by rw [HF.out]; rfl, (F0.out.tr F.out).drewN _⟩
        · have q2 : (x.1.t.toList == k.t.toList && x.1.i == k.i) = false := by rw [strEq, Bool.eq_false_iff]; intro h; exact hti (by simpa using h)
          rw [q2] at heq
          have hk : ∀ j r, j < i + 1 → L[j]? = some r → r.1 ≠ k := fun j r hj hr => by
            rcases Nat.lt_or_ge j i with h | h
            · exact NO.out j r h hr
            · obtain rfl : j = i := by omega
              rw [HX.out] at hr; injection hr with hr; subst hr
              exact fun e => hti (by rw [e]; exact ⟨rfl, rfl⟩)
          have HK := Lib.hid hk
          clear hg hti q2 hk
          go_wp2_with fail
          go_quiet (fail)
          clear heq
          have F2 := Lib.hid (F.out.drewN nq)
          generalize wr.drewN nq = w2 at *
          go_wp2_with fail
          go_roundw
          case rel => exact ⟨i + 1, by go_num, hlt, HK.out, F2.out⟩
          case measure => simp [intOf]; omega
      · have q1 : (x.1.g.toList == k.g.toList) = false := by rw [strEq]; simp [hg]
        have hk : ∀ j r, j < i + 1 → L[j]? = some r → r.1 ≠ k := fun j r hj hr => by
          rcases Nat.lt_or_ge j i with h | h
          · exact NO.out j r h hr
          · obtain rfl : j = i := by omega
            rw [HX.out] at hr; injection hr with hr; subst hr
            exact fun e => hg (by rw [e])
        have HK := Lib.hid hk
        clear hg hk heq
        go_wp2_with fail
        go_quiet (fail)
        have F2 := Lib.hid (F.out.drewN nq)
        generalize wr.drewN nq = w2 at *
        go_wp2_with fail
        go_roundw
        case rel => exact ⟨i + 1, by go_num, hlt, HK.out, F2.out⟩
        case measure => simp [intOf]; omega
    · obtain rfl : i = L.length := by omega
      have hfi := fidx_no (L := L) (k := k) fun j r hr => NO.out j r (List.getElem?_eq_some_iff.1 hr).1 hr
      have HF := Lib.hid hfi
      clear hfi
      go_wp2_with fail
      go_ret
      exact ⟨by rw [HF.out]; rfl, F0.out.tr F.out⟩
end Go.Proofs.Ytdgdhegbcjimbaa
