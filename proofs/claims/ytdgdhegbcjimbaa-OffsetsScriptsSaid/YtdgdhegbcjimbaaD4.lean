/- The document's table: Forget, Drop: the walks. -/
import Derived.Test.YtdgdhegbcjimbaaD3
namespace Go.Proofs.Ytdgdhegbcjimbaa
open Go.RowKit Go.Fm Go.BigFrame
set_option linter.unusedVariables false
set_option linter.unusedSimpArgs false

theorem wrap64_id {n : Int} (h : -9223372036854775808 ≤ n ∧ n ≤ 9223372036854775807) : wrap64 n = n := by unfold wrap64; omega
/-- The rows while they are let go, from behind. -/
def goneTo (L : List Row) (p : Key → Bool) (j : Nat) : List Row := L.take j ++ keepL (L.drop j) p
theorem goneTo_all (L : List Row) (p : Key → Bool) : goneTo L p L.length = L := by
  unfold goneTo keepL; simp
theorem goneTo_zero (L : List Row) (p : Key → Bool) : goneTo L p 0 = keepL L p := by
  unfold goneTo; simp
theorem goneTo_at {L : List Row} {p : Key → Bool} {m : Nat} {x : Row} (h : L[m]? = some x) : (goneTo L p (m + 1))[m]? = some x := by
  have hlt := (List.getElem?_eq_some_iff.1 h).1
  unfold goneTo
  rw [List.getElem?_append_left (by rw [List.length_take]; omega), List.getElem?_take_of_lt (by omega)]
  exact h
theorem drop_of {L : List Row} {m : Nat} {x : Row} (h : L[m]? = some x) : L.drop m = x :: L.drop (m + 1) := by
  obtain ⟨h1, h2⟩ := List.getElem?_eq_some_iff.1 h
  rw [List.drop_eq_getElem_cons h1, h2]
theorem take_of {L : List Row} {m : Nat} {x : Row} (h : L[m]? = some x) : L.take (m + 1) = L.take m ++ [x] := by
  rw [List.take_add_one, h]; rfl
theorem goneTo_yes {L : List Row} {p : Key → Bool} {m : Nat} {x : Row} (h : L[m]? = some x) (hp : p x.1 = true) : (goneTo L p (m + 1)).take m ++ (goneTo L p (m + 1)).drop (m + 1) = goneTo L p m := by
  have hlt := (List.getElem?_eq_some_iff.1 h).1
  have l1 : (L.take (m + 1)).length = m + 1 := by rw [List.length_take]; omega
  have l0 : (L.take m).length = m := by rw [List.length_take]; omega
  unfold goneTo
  have e0 : (L.take (m + 1)).drop (m + 1) = [] := List.drop_eq_nil_of_le (by omega)
  rw [List.drop_append_of_le_length (by omega), e0, List.nil_append, List.take_append_of_le_length (by omega), List.take_take, Nat.min_eq_left (by omega), drop_of h]
  simp [keepL, hp]
theorem goneTo_no {L : List Row} {p : Key → Bool} {m : Nat} {x : Row} (h : L[m]? = some x) (hp : p x.1 = false) : goneTo L p (m + 1) = goneTo L p m := by
  unfold goneTo
  rw [take_of h, drop_of h]
  simp [keepL, hp]
theorem goneTo_len {L : List Row} {p : Key → Bool} {m : Nat} : (goneTo L p m).length ≤ L.length := by
  unfold goneTo keepL
  rw [List.length_append, List.length_take]
  have := List.length_filter_le (fun r : Row => !p r.1) (L.drop m)
  rw [List.length_drop] at this
  omega
theorem len_yes {L : List Row} {p : Key → Bool} {m : Nat} {x : Row} (h : L[m]? = some x) (hp : p x.1 = true) : (goneTo L p (m + 1)).length = (goneTo L p m).length + 1 := by
  unfold goneTo
  rw [take_of h, drop_of h]
  simp [keepL, hp]; omega
def RTakeP (B kb : Nat) (room : Int) (L : List Row) (p : Key → Bool) (w : World) (e : Ending) (w' : World) : Prop :=
  e = .returned (.int .i64 ((L.length : Int) - ((keepL L p).length : Int))) ∧ ∃ v', RTbl w' B kb v' room (keepL L p) ∧ Fr (fun i => i = kb) w w'
set_option maxRecDepth 100000 in
set_option maxHeartbeats 8000000 in
theorem rforget_walk (s : ByteArray) (B kb : Nat) (v : Value) (room : Int) (L : List Row) (w : World) (h : RTbl w B kb v room L) (hB : B ≤ w.heap.size) :
    Calls Try.prog 31 #[.pointer (some ⟨kb, 0, none⟩), .string s] w (RTakeP B kb room L (fun k => decide (k.g = s)) w) := by
  obtain ⟨p, hp⟩ : ∃ p : Key → Bool, p = fun k => decide (k.g = s) := ⟨_, rfl⟩
  rw [← hp]
  have HP := Lib.hid hp
  obtain ⟨oa, cap, rfl⟩ := h.slice
  have e1 := (cell_of h.cells 1).trans rfl
  simp at e1
  have hlen := h.len
  have H := Lib.hid h
  clear h hp
  go_enter Try.func31, Try.ntmps31
  go_wp2_with fail
  clear e1
  go_loopw [5, 6] (fun n iv wr => ∃ (j : Nat) (v : Value), iv = .int .i64 ((j : Int) - 1) ∧ j ≤ L.length ∧ n = .int .i64 ((L.length : Int) - (goneTo L p j).length) ∧ RTbl wr B kb v room (goneTo L p j) ∧ Fr (fun i => i = kb) w wr) (fun _ iv _ => (intOf iv + 1).toNat)
  case atStart => exact ⟨L.length, _, rfl, Nat.le_refl _, by rw [goneTo_all]; simp, by rw [goneTo_all]; exact H.out, Fr.refl _ _⟩
  case round =>
    obtain ⟨j, v, rfl, hj, rfl, ht, hf⟩ := hrel
    have F := Lib.hid hf
    have T := Lib.hid ht
    clear hf ht
    have hle := goneTo_len (L := L) (p := p) (m := j)
    cases j with
    | zero =>
      have e0 : ((0 : Nat) : Int) - 1 = -1 := rfl
      rw [e0]
      rw [goneTo_zero] at T ⊢
      clear hle
      go_wp2_with fail
      go_ret
      exact ⟨rfl, v, T.out, F.out⟩
    | succ m =>
      have em : ((m + 1 : Nat) : Int) - 1 = m := by omega
      rw [em]
      obtain ⟨x, hx⟩ := get_of_lt (l := L) (k := m) (by omega)
      obtain ⟨oa', cap', hv⟩ := T.out.slice
      subst hv
      obtain ⟨g, rfl, hgB, hgk, c0, c1, c2, c3⟩ := T.out.at (goneTo_at hx)
      have HX := Lib.hid hx
      have e1 := (cell_of T.out.cells 1).trans rfl
      simp at e1
      have gm : decide (0 ≤ (m : Int)) = true := by simp
      have hml : m < (goneTo L p (m + 1)).length := (List.getElem?_eq_some_iff.1 (goneTo_at hx)).1
      by_cases hg : x.1.g = s
      · have q1 : (x.1.g.toList == s.toList) = true := by rw [strEq]; simp [hg]
        have hpx : p x.1 = true := by rw [HP.out]; simp [hg]
        have CW := Lib.hid (cut_walk m B kb _ room _ wr T.out hml (Nat.le_trans hB F.out.size))
        have hy := goneTo_yes hx hpx
        have hly := len_yes hx hpx
        rw [hy] at CW
        have HLY := Lib.hid hly
        have HLE := Lib.hid hle
        clear hg hx em c1 c2 c3 hpx hly hle hy
        go_wp2_with fail
        refine CW.out.mono ?_
        rintro e w2 ⟨rfl, v2, ht2, hf2⟩
        have T2 := Lib.hid ht2
        have F2 := Lib.hid (F.out.trans hf2 fun i e => .inl e)
        clear ht2 hf2
        go_wp2_with fail
        go_roundw
        case rel => exact ⟨m, v2, rfl, by omega, by have h1 := HLY.out; have h2 := HLE.out; rw [wrap64_id (by omega)]; congr 1; omega, T2.out, F2.out⟩
        case measure => simp [intOf]
      · have q1 : (x.1.g.toList == s.toList) = false := by rw [strEq]; simp [hg]
        have hpx : p x.1 = false := by rw [HP.out]; simp [hg]
        have hy := goneTo_no hx hpx
        rw [hy] at T
        have HY := Lib.hid hy
        clear hg hx em c1 c2 c3 hpx hy hle
        go_wp2_with fail
        go_roundw
        case rel => exact ⟨m, _, rfl, by omega, by rw [HY.out], T.out, F.out⟩
        case measure => simp [intOf]
set_option maxRecDepth 100000 in
set_option maxHeartbeats 8000000 in
theorem rdrop_walk (s : ByteArray) (B kb : Nat) (v : Value) (room : Int) (L : List Row) (w : World) (h : RTbl w B kb v room L) (hB : B ≤ w.heap.size) :
    Calls Try.prog 32 #[.pointer (some ⟨kb, 0, none⟩), .string s] w (RTakeP B kb room L (fun k => decide (k.t = s)) w) := by
  obtain ⟨p, hp⟩ : ∃ p : Key → Bool, p = fun k => decide (k.t = s) := ⟨_, rfl⟩
  rw [← hp]
  have HP := Lib.hid hp
  obtain ⟨oa, cap, rfl⟩ := h.slice
  have e1 := (cell_of h.cells 1).trans rfl
  simp at e1
  have hlen := h.len
  have H := Lib.hid h
  clear h hp
  go_enter Try.func32, Try.ntmps32
  go_wp2_with fail
  clear e1
  go_loopw [5, 6] (fun n iv wr => ∃ (j : Nat) (v : Value), iv = .int .i64 ((j : Int) - 1) ∧ j ≤ L.length ∧ n = .int .i64 ((L.length : Int) - (goneTo L p j).length) ∧ RTbl wr B kb v room (goneTo L p j) ∧ Fr (fun i => i = kb) w wr) (fun _ iv _ => (intOf iv + 1).toNat)
  case atStart => exact ⟨L.length, _, rfl, Nat.le_refl _, by rw [goneTo_all]; simp, by rw [goneTo_all]; exact H.out, Fr.refl _ _⟩
  case round =>
    obtain ⟨j, v, rfl, hj, rfl, ht, hf⟩ := hrel
    have F := Lib.hid hf
    have T := Lib.hid ht
    clear hf ht
    have hle := goneTo_len (L := L) (p := p) (m := j)
    cases j with
    | zero =>
      have e0 : ((0 : Nat) : Int) - 1 = -1 := rfl
      rw [e0]
      rw [goneTo_zero] at T ⊢
      clear hle
      go_wp2_with fail
      go_ret
      exact ⟨rfl, v, T.out, F.out⟩
    | succ m =>
      have em : ((m + 1 : Nat) : Int) - 1 = m := by omega
      rw [em]
      obtain ⟨x, hx⟩ := get_of_lt (l := L) (k := m) (by omega)
      obtain ⟨oa', cap', hv⟩ := T.out.slice
      subst hv
      obtain ⟨g, rfl, hgB, hgk, c0, c1, c2, c3⟩ := T.out.at (goneTo_at hx)
      have HX := Lib.hid hx
      have e1 := (cell_of T.out.cells 1).trans rfl
      simp at e1
      have gm : decide (0 ≤ (m : Int)) = true := by simp
      have hml : m < (goneTo L p (m + 1)).length := (List.getElem?_eq_some_iff.1 (goneTo_at hx)).1
      by_cases hg : x.1.t = s
      · have q1 : (x.1.t.toList == s.toList) = true := by rw [strEq]; simp [hg]
        have hpx : p x.1 = true := by rw [HP.out]; simp [hg]
        have CW := Lib.hid (cut_walk m B kb _ room _ wr T.out hml (Nat.le_trans hB F.out.size))
        have hy := goneTo_yes hx hpx
        have hly := len_yes hx hpx
        rw [hy] at CW
        have HLY := Lib.hid hly
        have HLE := Lib.hid hle
        clear hg hx em c0 c2 c3 hpx hly hle hy
        go_wp2_with fail
        refine CW.out.mono ?_
        rintro e w2 ⟨rfl, v2, ht2, hf2⟩
        have T2 := Lib.hid ht2
        have F2 := Lib.hid (F.out.trans hf2 fun i e => .inl e)
        clear ht2 hf2
        go_wp2_with fail
        go_roundw
        case rel => exact ⟨m, v2, rfl, by omega, by have h1 := HLY.out; have h2 := HLE.out; rw [wrap64_id (by omega)]; congr 1; omega, T2.out, F2.out⟩
        case measure => simp [intOf]
      · have q1 : (x.1.t.toList == s.toList) = false := by rw [strEq]; simp [hg]
        have hpx : p x.1 = false := by rw [HP.out]; simp [hg]
        have hy := goneTo_no hx hpx
        rw [hy] at T
        have HY := Lib.hid hy
        clear hg hx em c0 c2 c3 hpx hy hle
        go_wp2_with fail
        go_roundw
        case rel => exact ⟨m, _, rfl, by omega, by rw [HY.out], T.out, F.out⟩
        case measure => simp [intOf]
end Go.Proofs.Ytdgdhegbcjimbaa
