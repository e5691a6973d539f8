/- The files of a disk: a map from names to boxes, as a list of rows. -/
import Derived.Test.YtdlnafhhkpklmaaGreatDoorM2
import Derived.Maps.OwnSet
import Derived.DeepKeys4
namespace Go.Proofs.YtdlnafhhkpklmaaGreatDoor
open Go.RowKit Go.Fm Go.Maps
set_option linter.unusedVariables false
set_option linter.unusedSimpArgs false

def ptrV (b : Nat) : Value := .pointer (some ⟨b, 0, none⟩)
def keyL (s : ByteArray) : Lit := .string s.data.toList
def dat (n : Nat) : DataW Unit := .lit (.int .i64 n)
/-- How a pointer to a box reads. -/
def ptrElem : Value → Option (DataW Unit × List MemPlace)
  | .pointer none => some (.lit (.bool false), [])
  | .pointer (some ⟨b, 0, none⟩) => some (.lit (.int .i64 b), [])
  | _ => none
theorem ptrElem_mk (b : Nat) : ptrElem (ptrV b) = some (dat b, []) := rfl
theorem ptrElem_inv {v : Value} {b : Nat} {ps : List MemPlace} (h : ptrElem v = some (dat b, ps)) : v = ptrV b := by
  unfold ptrElem at h
  split at h
  · simp [dat] at h
  · simp [dat] at h
    obtain ⟨h, -⟩ := h
    have : (_ : Nat) = b := Int.ofNat.inj h
    subst this
    rfl
  · cases h
theorem ptrElem_inv0 {v : Value} {ps : List MemPlace} (h : ptrElem v = some (.lit (.bool false), ps)) : v = .pointer none := by
  unfold ptrElem at h
  split at h
  · rfl
  · simp at h
  · cases h
theorem sLaw : Keyed Tryz.prog 9 := string_keyed Tryz.underlying9
theorem zeroP (w : World) : (zeroValue 109).run Tryz.prog w = .ok (.pointer none) w := by kernel_rfl
theorem keyOf_mk {k : ByteArray} (h : k.size ≤ maxLen) : keyOf Tryz.prog 9 (.string k) = some (keyL k) := WideMaps.keyOf_string_mk Tryz.underlying9 h
theorem keyL_inj {a b : ByteArray} (h : keyL a = keyL b) : a = b := by
  unfold keyL at h
  injection h with h
  cases a; cases b; simp_all [← Array.toList_inj]

/-! ### The rows -/
abbrev Row := ByteArray × Nat
def getL (L : List Row) (k : ByteArray) : Option Nat := (L.find? fun r => r.1 = k).map (·.2)
structure RowsOK (L : List Row) : Prop where
  nodup : (L.map (·.1)).Nodup
  ok : ∀ r ∈ L, r.1.size ≤ maxLen
/-- Block b of w is a map that holds just these rows. -/
def TabM (w : World) (b : Nat) (L : List Row) : Prop :=
  RowsOK L ∧ ∃ D : DataW Unit, w.ownsMap Tryz.prog 9 ptrElem b (Maps.size D) D ∧ Maps.size D = L.length ∧
    (∀ k : ByteArray, k.size ≤ maxLen → ∀ z, D.atKey (keyL k) z = match getL L k with | some a => dat a | none => z)

theorem getL_some {L : List Row} {k : ByteArray} {a : Nat} (h : getL L k = some a) : (k, a) ∈ L := by
  unfold getL at h
  cases hf : L.find? fun r => r.1 = k with
  | none => rw [hf] at h; cases h
  | some r =>
    rw [hf] at h
    have h1 := List.find?_some hf
    have h2 := List.mem_of_find?_eq_some hf
    simp at h h1
    obtain ⟨x, y⟩ := r
    simp at h h1
    subst h h1
    exact h2
theorem getL_none {L : List Row} {k : ByteArray} (h : getL L k = none) : ∀ r ∈ L, r.1 ≠ k := by
  unfold getL at h
  simp at h
  intro r hr e
  exact h r.1 r.2 hr e
theorem getL_mem {L : List Row} (hn : (L.map (·.1)).Nodup) {k : ByteArray} {a : Nat} (h : (k, a) ∈ L) : getL L k = some a := by
  cases hg : getL L k with
  | none => exact absurd rfl (getL_none hg _ h)
  | some b =>
    have h2 := getL_some hg
    rw [List.nodup_iff_pairwise_ne, List.pairwise_map] at hn
    have : ∀ (l : List Row), l.Pairwise (fun x y => x.1 ≠ y.1) → (k, a) ∈ l → (k, b) ∈ l → a = b := by
      intro l
      induction l with
      | nil => intro _ h; cases h
      | cons x r ih =>
        intro hp h3 h4
        obtain ⟨p1, p2⟩ := List.pairwise_cons.1 hp
        rcases List.mem_cons.1 h3 with rfl | h6
        · rcases List.mem_cons.1 h4 with h5 | h4
          · injection h5 with _ h5; exact h5.symm
          · exact (p1 (k, b) h4 rfl).elim
        · rcases List.mem_cons.1 h4 with rfl | h4
          · exact (p1 (k, a) h6 rfl).elim
          · exact ih p2 h6 h4
    rw [this L hn h h2]
theorem TabM.lt {w : World} {b : Nat} {L : List Row} (h : TabM w b L) : b < w.heap.size := by
  obtain ⟨-, D, h1, -⟩ := h; exact h1.lt
theorem TabM.to {w w' : World} {b : Nat} {L : List Row} (h : TabM w b L) (hb : w'.heap[b]? = w.heap[b]?) : TabM w' b L := by
  obtain ⟨h0, D, ⟨es, clock, h1, h2⟩, h3⟩ := h
  exact ⟨h0, D, ⟨es, clock, hb.trans h1, h2⟩, h3⟩
theorem TabM.fr {w w' : World} {b : Nat} {L : List Row} {S : Nat → Prop} (h : TabM w b L) (hf : Fr S w w') (hb : ¬ S b) : TabM w' b L := h.to (hf.block b h.lt hb)
theorem TabM.made (w : World) : TabM (w.alloc (.map #[] 0)) w.heap.size [] :=
  ⟨⟨List.nodup_nil, by simp⟩, .map [], World.ownsMap_made w Tryz.prog 9 _, rfl, fun _ _ _ => rfl⟩
theorem TabM.has {w : World} {b : Nat} {L : List Row} {D : DataW Unit} (h3 : ∀ k : ByteArray, k.size ≤ maxLen → ∀ z, D.atKey (keyL k) z = match getL L k with | some a => dat a | none => z) {k : ByteArray} (hk : k.size ≤ maxLen) : Maps.has D (keyL k) = (getL L k).isSome := by
  cases hf : getL L k with
  | none => exact has_false_of_atKey fun z => by rw [h3 k hk, hf]
  | some x => exact has_true_of_atKey (y := dat x) fun z => by rw [h3 k hk, hf]
def boxV (o : Option Nat) : Value := match o with | some b => ptrV b | none => .pointer none
/-- 'f, is := d.files[name]'. -/
theorem TabM.look {w : World} {b : Nat} {L : List Row} (h : TabM w b L) {k : ByteArray} (hk : k.size ≤ maxLen) :
    (Instr.lookup 84 (.map (some b)) (.string k) true).run Tryz.prog w = .ok (.tuple #[boxV (getL L k), .bool (getL L k).isSome]) w := by
  obtain ⟨h0, D, h1, h2, h3⟩ := h
  obtain ⟨v, ps, hr, hv⟩ := h1.look_ok sLaw Tryz.underlying84 (zeroP w) (show ptrElem (.pointer none) = some (.lit (.bool false), []) from rfl) (keyOf_mk hk)
  rw [hr, TabM.has (w := w) (b := b) h3 hk]
  rw [h3 k hk] at hv
  cases hf : getL L k with
  | none => rw [hf] at hv; rw [ptrElem_inv0 hv]; rfl
  | some x => rw [hf] at hv; rw [ptrElem_inv hv]; rfl
/-- 'd.files[name]'. -/
theorem TabM.look1 {w : World} {b : Nat} {L : List Row} (h : TabM w b L) {k : ByteArray} (hk : k.size ≤ maxLen) :
    (Instr.lookup 84 (.map (some b)) (.string k) false).run Tryz.prog w = .ok (boxV (getL L k)) w := by
  obtain ⟨h0, D, h1, h2, h3⟩ := h
  obtain ⟨v, ps, hr, hv⟩ := h1.lookup sLaw Tryz.underlying84 (zeroP w) (show ptrElem (.pointer none) = some (.lit (.bool false), []) from rfl) (keyOf_mk hk)
  rw [hr]
  rw [h3 k hk] at hv
  cases hf : getL L k with
  | none => rw [hf] at hv; rw [ptrElem_inv0 hv]; rfl
  | some x => rw [hf] at hv; rw [ptrElem_inv hv]; rfl

theorem own_tight {w : World} {b n : Nat} {D : DataW Unit} (h : w.ownsMap Tryz.prog 9 ptrElem b n D) : w.ownsMap Tryz.prog 9 ptrElem b (Maps.size D) D := by
  obtain ⟨es, clock, h1, h2, h3, h4⟩ := h
  exact ⟨es, clock, h1, h2, by rw [h4]; simp [Maps.size, length_sorted], h4⟩
/-- The rows with one that is new, or has another value. -/
def putR (L : List Row) (k : ByteArray) (a : Nat) : List Row := (k, a) :: L.filter fun r => r.1 ≠ k
def delL (L : List Row) (k : ByteArray) : List Row := L.filter fun r => r.1 ≠ k
theorem getL_filter (L : List Row) (p : ByteArray → Bool) (k : ByteArray) : getL (L.filter fun r => p r.1) k = if p k then getL L k else none := by
  unfold getL
  induction L with
  | nil => simp
  | cons x r ih =>
    by_cases hx : x.1 = k
    · subst hx
      by_cases hp : p x.1
      · simp [hp]
      · simp [hp] at ih ⊢
        exact ih
    · by_cases hp : p x.1 = true <;> simp only [List.filter_cons, hp, if_true, List.find?_cons, hx, decide_false, Bool.false_eq_true, if_false] <;> exact ih
theorem getL_put (L : List Row) (k : ByteArray) (a : Nat) (k' : ByteArray) : getL (putR L k a) k' = if k' = k then some a else getL L k' := by
  unfold putR
  by_cases e : k' = k
  · subst e; simp [getL]
  · have h1 : getL ((k, a) :: L.filter fun r => r.1 ≠ k) k' = getL (L.filter fun r => r.1 ≠ k) k' := by
      unfold getL
      rw [List.find?_cons_of_neg]
      simp; exact fun h => e h.symm
    rw [h1, if_neg e]
    have := getL_filter L (fun x => x ≠ k) k'
    simp only [e, ne_eq, not_false_eq_true, decide_true, if_true] at this
    exact this
theorem getL_del (L : List Row) (k k' : ByteArray) : getL (delL L k) k' = if k' = k then none else getL L k' := by
  have := getL_filter L (fun x => x ≠ k) k'
  unfold delL
  rw [this]
  by_cases e : k' = k <;> simp [e]
theorem len_strike {L : List Row} (hn : (L.map (·.1)).Nodup) (k : ByteArray) : (delL L k).length + (if (getL L k).isSome then 1 else 0) = L.length := by
  induction L with
  | nil => simp [delL, getL]
  | cons x r ih =>
    obtain ⟨h1, h2⟩ := List.nodup_cons.1 hn
    have ih := ih h2
    by_cases hx : x.1 = k
    · subst hx
      have : getL r x.1 = none := by
        cases hg : getL r x.1 with
        | none => rfl
        | some a => exact absurd (List.mem_map.2 ⟨_, getL_some hg, rfl⟩) h1
      rw [this] at ih
      simp [delL, getL] at ih ⊢
      exact ih
    · have e1 : getL (x :: r) k = getL r k := by unfold getL; rw [List.find?_cons_of_neg]; simpa using hx
      rw [e1]
      simp [delL, hx] at ih ⊢
      omega
theorem rows_del {L : List Row} (h : RowsOK L) (k : ByteArray) : RowsOK (delL L k) :=
  ⟨h.nodup.sublist (List.filter_sublist.map _), fun r hr => h.ok r (List.mem_filter.1 hr).1⟩
theorem rows_put {L : List Row} (h : RowsOK L) {k : ByteArray} (hk : k.size ≤ maxLen) {a : Nat} : RowsOK (putR L k a) := by
  refine ⟨?_, fun r hr => ?_⟩
  · unfold putR
    rw [List.map_cons, List.nodup_cons]
    refine ⟨fun hm => ?_, (rows_del h k).nodup⟩
    obtain ⟨r, hr, e⟩ := List.mem_map.1 hm
    have := (List.mem_filter.1 hr).2
    simp at this
    exact this e
  · rcases List.mem_cons.1 hr with rfl | hr
    · exact hk
    · exact (rows_del h k).ok r hr

section
variable {ops : Array Oper} {rest : List Oper} {o : Oper} {a : Act} {Q : Exit → Act → World → Prop}
theorem TabM.put {w w' : World} {b n : Nat} {L : List Row} {D : DataW Unit} (h0 : RowsOK L) (h1 : w.ownsMap Tryz.prog 9 ptrElem b n D) (h2 : Maps.size D = L.length)
    (h3 : ∀ k : ByteArray, k.size ≤ maxLen → ∀ z, D.atKey (keyL k) z = match getL L k with | some a => dat a | none => z) {k : ByteArray} (hk : k.size ≤ maxLen) {x : Nat}
    {m : Nat} (h4 : w'.ownsMap Tryz.prog 9 ptrElem b m (D.put (keyL k) (dat x))) : TabM w' b (putR L k x) := by
  have isk : WideAt.IsKeyLit (keyL k) := trivial
  refine ⟨rows_put h0 hk, _, own_tight h4, ?_, fun k' hk' z => ?_⟩
  · rw [size_put (h1.tidy sLaw), TabM.has (w := w) (b := b) h3 hk, h2]
    have := len_strike h0.nodup k
    have e : (putR L k x).length = (delL L k).length + 1 := rfl
    rw [e]
    cases hs : (getL L k).isSome <;> rw [hs] at this <;> simp at this ⊢ <;> omega
  · rw [getL_put]
    by_cases e : k' = k
    · subst e
      rw [atKey_put_same h1.isMap isk]; simp
    · rw [atKey_put_other (fun h => e (keyL_inj h)), h3 k' hk', if_neg e]
theorem wpList_put (w : World) (hg : o.guard = none) (m x v : Operand) (hop : o.op = Op.mapUpdate 84 m x v) (b : Nat) (L : List Row) (hm : a.eval m = .map (some b)) (ht : TabM w b L) (hn : L.length < 1000000)
    (k : ByteArray) (hx : a.eval x = .string k) (hk : k.size ≤ maxLen) (n : Nat) (hv : a.eval v = ptrV n)
    (hK : ∀ w', TabM w' b (putR L k n) → w.grownBy w' (some b) → wpList Tryz.prog ops Q rest (a.put o.dst undef) w') : wpList Tryz.prog ops Q (o :: rest) a w := by
  obtain ⟨h0, D, h1, h2, h3⟩ := ht
  refine wpList_mapUpdate_own w hg m x v 84 hop 9 109 sLaw Tryz.underlying84 ptrElem b _ D hm h1 (by rw [h2]; unfold maxLen; omega) (.string k) (ptrV n) _ hx hv (keyOf_mk hk) (dat n) [] (ptrElem_mk n) fun w' h7 h8 => hK w' (TabM.put h0 h1 h2 h3 hk h7) h8
end
end Go.Proofs.YtdlnafhhkpklmaaGreatDoor
