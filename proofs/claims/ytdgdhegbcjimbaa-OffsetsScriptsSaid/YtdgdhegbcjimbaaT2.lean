/- Forget, Drop of a table: the walks. -/
import Derived.Test.YtdgdhegbcjimbaaT1
import Derived.Maps.RangeWalk
import Derived.Shelf.Abstract
namespace Go.Proofs.Ytdgdhegbcjimbaa
open Go.RowKit Go.Fm Go.BigFrame Go.Maps Go.Shelf
set_option linter.unusedVariables false
set_option linter.unusedSimpArgs false

structure RowsD (D : DataW Unit) (L : List Row) : Prop where
  rows : RowsOK L
  size : Maps.size D = L.length
  atk : ∀ k, KeyOK k → ∀ z, D.atKey (keyL k) z = match getL L k with | some a => dat a | none => z
theorem RowsD.del {D : DataW Unit} {L : List Row} (h : RowsD D L) (ht : Tidy D) {k : Key} (hk : KeyOK k) : RowsD (D.del (keyL k)) (delL L k) := by
  refine ⟨rows_del h.rows k, ?_, fun k' hk' z => ?_⟩
  · have e1 := size_del (k := keyL k) ht
    rw [TabM.has (w := default) (b := 0) h.atk hk] at e1
    have := len_strike h.rows.nodup k
    have := h.size
    omega
  · rw [getL_del]
    by_cases e : k' = k
    · subst e
      rw [atKey_del_same]; simp
    · rw [atKey_del_other (fun h => e (keyL_inj hk' hk h)), h.atk k' hk', if_neg e]
theorem RowsD.tab {w : World} {b n : Nat} {D : DataW Unit} {L : List Row} (h : RowsD D L) (ho : w.ownsMap Try.prog 36 (plainElem Try.prog 3) b n D) : TabM w b L := ⟨h.rows, D, own_tight ho, h.size, h.atk⟩
theorem TabM.open {w : World} {b : Nat} {L : List Row} (h : TabM w b L) : ∃ D, w.ownsMap Try.prog 36 (plainElem Try.prog 3) b (Maps.size D) D ∧ RowsD D L := by
  obtain ⟨h0, D, h1, h2, h3⟩ := h
  exact ⟨D, h1, h0, h2, h3⟩
theorem ranges_to {w w' : World} {b r n cnt : Nat} {D : DataW Unit} {left : Lit → Bool} {R : Value → Option (DataW Unit × List MemPlace)} {P : Program} {t : TypeId} (h : w.ranges P t R b r n D left cnt) (hb : w'.heap[b]? = w.heap[b]?) (hr : w'.heap[r]? = w.heap[r]?) : w'.ranges P t R b r n D left cnt := by
  obtain ⟨es, clock, since, seen, c0, h1, h2, h3, h4, h5, h6⟩ := h
  exact ⟨es, clock, since, seen, c0, hb.trans h1, h2, h3, h4, hr.trans h5, h6⟩

/-- What a function value, bound to what it has captured, answers of each key. -/
def Goes (g : Nat) (lb : Array Value) (p : Key → Bool) (w : World) : Prop :=
  (∀ args w, (callFunc g args).run Try.prog w = .ok (.enter g args) w) ∧ ∀ w', Fr (fun _ => False) w w' → ∀ k, Calls Try.prog g (#[keyV k] ++ lb) w' fun e w2 => e = .returned (.bool (p k)) ∧ Fr (fun _ => False) w' w2
theorem take1_walk (g : Nat) (lb : Array Value) (p : Key → Bool) (k : Key) (v : Int) (gb : Nat) (w : World) (hg : Goes g lb p w) (hc : w.cell? ⟨gb, 0, none⟩ = some (.func (.func g) #[] lb)) :
    Calls Try.prog 47 #[keyV k, .int .i64 v, .pointer (some ⟨gb, 0, none⟩)] w fun e w' => e = .returned (.bool (p k)) ∧ Fr (fun _ => False) w w' := by
  have hf := (Fr.same w).alloc (.cells #[.string k.g, .string k.t, .int .i64 k.i] 36)
  have hcall := hg.2 _ hf k
  have eg := hg.1
  have hc1 := hf.cel hc
  have HF := Lib.hid hf
  have HC := Lib.hid hcall
  clear hg hc hf hcall
  unfold keyV at HC ⊢
  go_enter Try.func47, Try.ntmps47
  go_wp2_with fail
  refine HC.out.mono ?_
  rintro e w2 ⟨rfl, hf⟩
  go_wp2_with fail
  go_ret
  exact ⟨rfl, HF.out.tr hf⟩
theorem Goes.later {g : Nat} {lb : Array Value} {p : Key → Bool} {w w' : World} {S : Nat → Prop} (h : Goes g lb p w) (hf : Fr (fun _ => False) w w') : Goes g lb p w' := ⟨h.1, fun w2 hf2 k => h.2 w2 (hf.tr hf2) k⟩

/-- The rows whose keys do not meet p. -/
def keepL (L : List Row) (p : Key → Bool) : List Row := L.filter fun r => !p r.1
def DelPost (mb : Nat) (L : List Row) (p : Key → Bool) (w : World) (e : Ending) (w' : World) : Prop := e = .returned (.tuple #[]) ∧ TabM w' mb (keepL L p) ∧ Fr (fun i => i = mb) w w'
/-- Between two rounds of 'DeleteFunc'. -/
def DelMid (mb : Nat) (L : List Row) (p : Key → Bool) (w wr : World) : Prop :=
  ∃ (D : DataW Unit) (left : Lit → Bool) (cnt n : Nat) (M : List Row), wr.ranges Try.prog 36 (plainElem Try.prog 3) mb w.heap.size n D left cnt ∧ RowsD D M ∧
    (∀ k, KeyOK k → getL M k = if p k = true ∧ left (keyL k) = false then none else getL L k) ∧ Fr (fun i => i = mb) w wr
/-- What the closure 'goes' answers, whatever the map holds. -/
def Goes2 (g : Nat) (lb : Array Value) (p : Key → Bool) (mb : Nat) (w : World) : Prop :=
  (∀ args w, (callFunc g args).run Try.prog w = .ok (.enter g args) w) ∧ ∀ w', Fr (fun i => i = mb) w w' → ∀ (k : Key) (v : Int), Calls Try.prog g (#[keyV k, .int .i64 v] ++ lb) w' fun e w2 => e = .returned (.bool (p k)) ∧ Fr (fun _ => False) w' w2
set_option maxHeartbeats 4000000 in
theorem delfunc_walk (g : Nat) (lb : Array Value) (p : Key → Bool) (mb : Nat) (L : List Row) (w : World) (h : TabM w mb L) (hg : Goes2 g lb p mb w) :
    Calls Try.prog 46 #[.map (some mb), .func (.func g) #[] lb] w (DelPost mb L p w) := by
  obtain ⟨D, ho, hD⟩ := h.open
  have hml := h.lt
  have eg := hg.1
  have HG := Lib.hid hg.2
  have HO := Lib.hid ho
  have HD := Lib.hid hD
  have HT := Lib.hid h
  clear hg ho hD h
  go_enter Try.func46, Try.ntmps46
  go_wp2_with (at_range; refine wpList_range_own _ rfl _ 56 rfl 36 3 kLaw Try.underlying56 _ mb _ _ rfl HO.out ?_; intro w0 hrg0 hg0 hs0)
  have hm0 : DelMid mb L p w w0 := ⟨D, _, _, _, L, hrg0, HD.out, fun k hk => by
    have hh := TabM.has (w := w) (b := mb) HD.out.atk hk
    rw [hh]
    cases getL L k <;> simp, (Fr.refl _ w).grown hg0 fun k e => by cases e⟩
  have HM0 := Lib.hid hm0
  clear hrg0 hg0 hs0 hm0
  go_frame
  go_loopw [4] (fun _ wr => DelMid mb L p w wr) (fun _ wr => wr.rangeLeft mb w.heap.size)
  case atStart => exact HM0.out
  case round =>
    obtain ⟨D', left, cnt, n, M, hrg, hM, hget, hf⟩ := hrel
    have HRG := Lib.hid hrg
    have HM := Lib.hid hM
    have HGET := Lib.hid hget
    have F := Lib.hid hf
    clear hrg hM hget hf
    go_wp2_with (at_next; refine wpList_next_ranges _ rfl _ rfl 36 kLaw (plainElem Try.prog 3) keyV (Value.int .i64) (fun key kl hk => by obtain ⟨k, _, e, _⟩ := keyOf_inv hk; exact ⟨k, e⟩) (fun v y hv => by obtain ⟨c, rfl, _⟩ := plainElem_int_inv Try.underlying3 hv; exact ⟨c, rfl⟩) mb w.heap.size n _ _ _ rfl HRG.out ?_ ?_)
    · intro hc0 hl0
      have hfin : DelPost mb L p w (.returned (.tuple #[])) wr := by
        refine ⟨rfl, (HM.out.tab HRG.out.owns).perm ?_, F.out⟩
        refine rows_perm HM.out.rows.nodup (HT.out.1.nodup.sublist (List.filter_sublist.map _)) fun k => ?_
        have hfl := getL_filter L (fun x => !p x) k
        unfold keepL
        rw [hfl]
        by_cases hk : KeyOK k
        · rw [HGET.out k hk, hl0]
          cases p k <;> simp
        · have n1 : ∀ {L : List Row}, RowsOK L → getL L k = none := fun {L} hL => by
            cases hg : getL L k with
            | none => rfl
            | some a => exact absurd (hL.ok _ (getL_some hg)).1 hk
          rw [n1 HM.out.rows, n1 HT.out.1]
          simp
      have HFIN := Lib.hid hfin
      clear hc0 hl0 hfin
      go_wp2_with fail
      go_end0
      exact HFIN.out
    · intro k c kl yd yp w2 cnt2 hkey hlk hv hat hrg2 hlt hg2 hs2 hen
      obtain ⟨k', hok, ek, rfl⟩ := keyOf_inv hkey
      obtain rfl := keyV_inj ek
      have hf2 : Fr (fun i => i = mb) w w2 := F.out.grown hg2 fun i e => by cases e; exact .inr (Nat.le_refl _)
      have hf3 : Fr (fun i => i = mb) w (w2.alloc (.cells #[.string k.g, .string k.t, .int .i64 k.i] 36)) := hf2.alloc _
      have hcall := HG.out _ hf3 k c
      have hrg3 : (w2.alloc (.cells #[.string k.g, .string k.t, .int .i64 k.i] 36)).ranges Try.prog 36 (plainElem Try.prog 3) mb w.heap.size n D' (fun z => left z && !z.sameKey (keyL k)) cnt2 := hrg2.alloc _
      have hleft : ∀ k2, KeyOK k2 → ((left (keyL k2) && !(keyL k2).sameKey (keyL k)) = false ↔ (left (keyL k2) = false ∨ k2 = k)) := fun k2 hk2 => by
        by_cases e : k2 = k
        · subst e
          have : (keyL k2).sameKey (keyL k2) = true := WideAt.sameKey_self trivial
          simp [this]
        · have : (keyL k2).sameKey (keyL k) = false := sameKey_ne fun h => e (keyL_inj hk2 hok h)
          simp [this, e]
      have HF3 := Lib.hid hf3
      have HRG3 := Lib.hid hrg3
      have HCALL := Lib.hid hcall
      have HLEFT := Lib.hid hleft
      have HLT := Lib.hid hlt
      have hsz : w2.heap.size + 1 = (w2.alloc (.cells #[.string k.g, .string k.t, .int .i64 k.i] 36)).heap.size := by simp
      have HSZ := Lib.hid hsz
      clear hkey ek hlk hv hat hrg2 hlt hg2 hs2 hf2 hf3 hcall hrg3 hleft hsz
      unfold keyV at hen HCALL ⊢
      go_wp2_with fail
      refine HCALL.out.mono ?_
      rintro e w4 ⟨rfl, hf4⟩
      have hrg4 := ranges_to HRG3.out (hf4.block mb HRG3.out.owns.lt fun h => h) (hf4.block _ HRG3.out.lt fun h => h)
      have hf5 := HF3.out.trans hf4 fun i e => e.elim
      have d0 := hf4.cel (cell_alloc_new w2 #[.string k.g, .string k.t, .int .i64 k.i] 36 0)
      have d1 := hf4.cel (cell_alloc_new w2 #[.string k.g, .string k.t, .int .i64 k.i] 36 1)
      have d2 := hf4.cel (cell_alloc_new w2 #[.string k.g, .string k.t, .int .i64 k.i] 36 2)
      have HRG4 := Lib.hid hrg4
      have HF5 := Lib.hid hf5
      clear hf4 hrg4 hf5 hen
      cases hp : p k with
      | false =>
        have HP := Lib.hid hp
        clear hp
        go_wp2_with fail
        go_roundw
        case rel =>
          refine ⟨D', _, cnt2, n, M, HRG4.out, HM.out, fun k2 hk2 => ?_, HF5.out⟩
          rw [HGET.out k2 hk2]
          have h1 := HLEFT.out k2 hk2
          by_cases e : k2 = k
          · subst e; simp [HP.out]
          · by_cases e2 : left (keyL k2) = false
            · rw [h1.2 (.inl e2), e2]
            · have h2 : ¬ (left (keyL k2) && !(keyL k2).sameKey (keyL k)) = false := fun h => by rcases h1.1 h with h | h <;> contradiction
              rw [if_neg (fun h => e2 h.2), if_neg (fun h => h2 h.2)]
        case measure => rw [HRG4.out.left_eq, HRG.out.left_eq]; exact HLT.out
      | true =>
        have HP := Lib.hid hp
        clear hp
        go_wp2_with (at_delete; refine wpList_delete_ranges _ rfl _ _ 56 36 rfl 3 kLaw Try.underlying56 (plainElem Try.prog 3) mb w.heap.size n _ _ _ rfl HRG4.out (keyV k) _ rfl (keyOf_mk hok) ?_; intro w6 cnt6 hrg6 hle6 hturn6)
        have hrd := HM.out.del (HRG4.out.owns.tidy kLaw) hok
        have hf6 := HF5.out.grown hturn6.grown fun i e => by cases e; exact .inl rfl
        rw [Maps.strike_twice] at hrg6
        have HRG6 := Lib.hid hrg6
        have HRD := Lib.hid hrd
        have HF6 := Lib.hid hf6
        clear hrg6 hrd hf6 hturn6
        go_wp2_with fail
        go_frame
        go_roundw
        case rel =>
          refine ⟨_, _, cnt6, n, _, HRG6.out, HRD.out, fun k2 hk2 => ?_, HF6.out⟩
          rw [getL_del, HGET.out k2 hk2]
          have h1 := HLEFT.out k2 hk2
          by_cases e : k2 = k
          · subst e
            rw [if_pos rfl, if_pos ⟨HP.out, h1.2 (.inr rfl)⟩]
          · rw [if_neg e]
            by_cases e2 : left (keyL k2) = false
            · rw [h1.2 (.inl e2), e2]
            · have h2 : ¬ (left (keyL k2) && !(keyL k2).sameKey (keyL k)) = false := fun h => by rcases h1.1 h with h | h <;> contradiction
              rw [if_neg (fun h => e2 h.2), if_neg (fun h => h2 h.2)]
        case measure => rw [HRG6.out.left_eq, HRG.out.left_eq]; have := HLT.out; omega

def TakePost (tb mb : Nat) (room : Int) (L : List Row) (p : Key → Bool) (w : World) (e : Ending) (w' : World) : Prop :=
  e = .returned (.int .i64 ((L.length : Int) - ((keepL L p).length : Int))) ∧ Tbl w' tb mb room (keepL L p) ∧ Fr (fun i => i = mb) w w'
theorem keep_le (L : List Row) (p : Key → Bool) : (keepL L p).length ≤ L.length := List.length_filter_le _ _
set_option maxHeartbeats 4000000 in
theorem take_walk (g : Nat) (lb : Array Value) (p : Key → Bool) (tb mb : Nat) (room : Int) (L : List Row) (w : World) (h : Tbl w tb mb room L)
    (hg : (∀ args w, (callFunc g args).run Try.prog w = .ok (.enter g args) w) ∧ ∀ w', Fr (fun i => i = mb) w w' → ∀ k, Calls Try.prog g (#[keyV k] ++ lb) w' fun e w2 => e = .returned (.bool (p k)) ∧ Fr (fun _ => False) w' w2) :
    Calls Try.prog 27 #[.pointer (some ⟨tb, 0, none⟩), .func (.func g) #[] lb] w (TakePost tb mb room L p w) := by
  have hr1 := h.room1
  have hr2 := h.room2
  have hln := h.len
  have hkl := keep_le L p
  have hf1 := (Fr.same w).alloc (.cells #[.func (.func g) #[] lb] 71)
  have h1 := h.old hf1
  have c1 := cell_of h1.cells 1
  have hlen := h1.map.len 3
  have hbox := cell_alloc_new w #[.func (.func g) #[] lb] 71 0
  have hg2 : Goes2 47 #[.pointer (some ⟨w.heap.size, 0, none⟩)] p mb (w.alloc (.cells #[.func (.func g) #[] lb] 71)) :=
    ⟨enters_of Try.func47 (by kernel_rfl) rfl, fun w' hf k v => take1_walk g lb p k v w.heap.size w' ⟨hg.1, fun w2 hf2 k2 => hg.2 w2 (((hf1.mono fun i e => e.elim).trans hf fun i e => .inl e).trans hf2 fun i e => e.elim) k2⟩ (hf.cell hbox fun e => by have := h.lt.2; simp at e; omega)⟩
  have hd := delfunc_walk 47 #[.pointer (some ⟨w.heap.size, 0, none⟩)] p mb L _ h1.map hg2
  have HD := Lib.hid hd
  have H1 := Lib.hid h1
  have HF1 := Lib.hid hf1
  have H := Lib.hid h
  clear hg hg2 hd h1 hf1 h hbox
  go_enter Try.func27, Try.ntmps27
  go_wp2_with fail
  refine HD.out.mono ?_
  rintro e w2 ⟨rfl, ht2, hf2⟩
  have hc2 : w2.heap[tb]? = some (.cells #[.int .i64 room, .map (some mb)] 58 (0, 0)) := (hf2.block tb H1.out.lt.1 H1.out.ne).trans H1.out.cells
  have c12 := cell_of hc2 1
  have hlen2 := ht2.len 3
  have T2 := Lib.hid (⟨hc2, ht2, hr1, hr2, by omega⟩ : Tbl w2 tb mb room (keepL L p))
  have F2 := Lib.hid ((HF1.out.mono fun i e => e.elim).trans hf2 fun i e => .inl e)
  clear hlen c1 hc2 ht2 hf2
  go_wp2_with fail
  go_ret
  exact ⟨rfl, T2.out, F2.out⟩
theorem take_nil (g : Nat) (lb : Array Value) (w : World) : Calls Try.prog 27 #[.pointer none, .func (.func g) #[] lb] w fun e w' => e = .returned (.int .i64 0) ∧ Fr (fun _ => False) w w' := by
  go_enter Try.func27, Try.ntmps27
  go_wp2_with fail
  go_ret
  exact ⟨rfl, (Fr.same w).alloc _⟩
theorem key_ne {a b : ByteArray} (h : ¬ a = b) : (a.toList == b.toList) = false := by
  cases hh : (a.toList == b.toList) with
  | false => rfl
  | true =>
    have h2 : a.toList = b.toList := eq_of_beq hh
    rw [ByteArray.toList_eq, ByteArray.toList_eq] at h2
    obtain ⟨⟨x⟩⟩ := a
    obtain ⟨⟨y⟩⟩ := b
    exact absurd (by simpa using h2) h
theorem strEq (a b : ByteArray) : (a.toList == b.toList) = decide (a = b) := by
  by_cases h : a = b
  · subst h; simp
  · rw [key_ne h]; simp [h]
theorem forget_fn (s : ByteArray) (k : Key) (gb : Nat) (w : World) (hc : w.cell? ⟨gb, 0, none⟩ = some (.string s)) : Calls Try.prog 28 #[keyV k, .pointer (some ⟨gb, 0, none⟩)] w fun e w' => e = .returned (.bool (decide (k.g = s))) ∧ Fr (fun _ => False) w w' := by
  have hc1 := ((Fr.same w).alloc (.cells #[.string k.g, .string k.t, .int .i64 k.i] 36)).cel hc
  unfold keyV
  go_enter Try.func28, Try.ntmps28
  go_wp2_with fail
  go_ret
  exact ⟨by rw [← strEq]; rfl, (Fr.same w).alloc _⟩
theorem drop_fn (s : ByteArray) (k : Key) (gb : Nat) (w : World) (hc : w.cell? ⟨gb, 0, none⟩ = some (.string s)) : Calls Try.prog 36 #[keyV k, .pointer (some ⟨gb, 0, none⟩)] w fun e w' => e = .returned (.bool (decide (k.t = s))) ∧ Fr (fun _ => False) w w' := by
  have hc1 := ((Fr.same w).alloc (.cells #[.string k.g, .string k.t, .int .i64 k.i] 36)).cel hc
  unfold keyV
  go_enter Try.func36, Try.ntmps36
  go_wp2_with fail
  go_ret
  exact ⟨by rw [← strEq]; rfl, (Fr.same w).alloc _⟩
set_option maxHeartbeats 1000000 in
theorem forget_walk (s : ByteArray) (tb mb : Nat) (room : Int) (L : List Row) (w : World) (h : Tbl w tb mb room L) :
    Calls Try.prog 15 #[.pointer (some ⟨tb, 0, none⟩), .string s] w (TakePost tb mb room L (fun k => decide (k.g = s)) w) := by
  have hf1 := (Fr.same w).alloc (.cells #[.string s] 9)
  have h1 := h.old hf1
  have hbox := cell_alloc_new w #[.string s] 9 0
  have ht := take_walk 28 #[.pointer (some ⟨w.heap.size, 0, none⟩)] (fun k => decide (k.g = s)) tb mb room L _ h1 ⟨enters_of Try.func28 (by kernel_rfl) rfl, fun w' hf k => forget_fn s k w.heap.size w' (hf.cell hbox fun e => by have := h.lt.2; simp at e; omega)⟩
  have HT := Lib.hid ht
  have HF1 := Lib.hid hf1
  clear ht hf1 h h1 hbox
  go_enter Try.func15, Try.ntmps15
  go_wp2_with fail
  refine HT.out.mono ?_
  rintro e w2 ⟨rfl, ht2, hf2⟩
  have HT2 := Lib.hid ht2
  have HF2 := Lib.hid hf2
  clear ht2 hf2
  go_wp2_with fail
  go_ret
  exact ⟨rfl, HT2.out, (HF1.out.mono fun i e => e.elim).trans HF2.out fun i e => .inl e⟩
theorem drop_walk (s : ByteArray) (tb mb : Nat) (room : Int) (L : List Row) (w : World) (h : Tbl w tb mb room L) :
    Calls Try.prog 18 #[.pointer (some ⟨tb, 0, none⟩), .string s] w (TakePost tb mb room L (fun k => decide (k.t = s)) w) := by
  have hf1 := (Fr.same w).alloc (.cells #[.string s] 9)
  have h1 := h.old hf1
  have hbox := cell_alloc_new w #[.string s] 9 0
  have ht := take_walk 36 #[.pointer (some ⟨w.heap.size, 0, none⟩)] (fun k => decide (k.t = s)) tb mb room L _ h1 ⟨enters_of Try.func36 (by kernel_rfl) rfl, fun w' hf k => drop_fn s k w.heap.size w' (hf.cell hbox fun e => by have := h.lt.2; simp at e; omega)⟩
  have HT := Lib.hid ht
  have HF1 := Lib.hid hf1
  clear ht hf1 h h1 hbox
  go_enter Try.func18, Try.ntmps18
  go_wp2_with fail
  refine HT.out.mono ?_
  rintro e w2 ⟨rfl, ht2, hf2⟩
  have HT2 := Lib.hid ht2
  have HF2 := Lib.hid hf2
  clear ht2 hf2
  go_wp2_with fail
  go_ret
  exact ⟨rfl, HT2.out, (HF1.out.mono fun i e => e.elim).trans HF2.out fun i e => .inl e⟩
theorem forget_nil (s : ByteArray) (w : World) : Calls Try.prog 15 #[.pointer none, .string s] w fun e w' => e = .returned (.int .i64 0) ∧ Fr (fun _ => False) w w' := by
  go_enter Try.func15, Try.ntmps15
  go_wp2_with fail
  refine (take_nil _ _ _).mono ?_
  rintro e w2 ⟨rfl, hf⟩
  have HF := Lib.hid (((Fr.same w).alloc _).tr hf)
  clear hf
  go_wp2_with fail
  go_ret
  exact ⟨rfl, HF.out⟩
theorem drop_nil (s : ByteArray) (w : World) : Calls Try.prog 18 #[.pointer none, .string s] w fun e w' => e = .returned (.int .i64 0) ∧ Fr (fun _ => False) w w' := by
  go_enter Try.func18, Try.ntmps18
  go_wp2_with fail
  refine (take_nil _ _ _).mono ?_
  rintro e w2 ⟨rfl, hf⟩
  have HF := Lib.hid (((Fr.same w).alloc _).tr hf)
  clear hf
  go_wp2_with fail
  go_ret
  exact ⟨rfl, HF.out⟩
theorem keys_nil (w : World) : Calls Try.prog 14 #[.pointer none] w fun e w' => e = .returned (.slice none 0 0) ∧ w = w' := by
  go_enter Try.func14, Try.ntmps14
  go_wp2_with fail
  go_ret
  exact ⟨rfl, rfl⟩
end Go.Proofs.Ytdgdhegbcjimbaa
