/- Keys of a table: what they read as; a map of keys as a list of rows. -/
import Derived.Test.YtdgdhegbcjimbaaFr
import Derived.Test.YtdgdhegbcjimbaaLoc
import Derived.Test.YtdgdhegbcjimbaaChecked
import Derived.Maps.OwnSet
import Derived.DeepKeys4
import Derived.Lib.Hide
namespace Go.Proofs.Ytdgdhegbcjimbaa
open Go.RowKit Go.Fm Go.Maps
set_option linter.unusedVariables false
set_option linter.unusedSimpArgs false

structure Key where
  g : ByteArray
  t : ByteArray
  i : Int
deriving DecidableEq
def keyV (k : Key) : Value := .agg #[.string k.g, .string k.t, .int .i64 k.i]
structure KeyOK (k : Key) : Prop where
  g : k.g.size ≤ maxLen
  t : k.t.size ≤ maxLen
  i : (Lit.int .i64 k.i).wf = true
def keyL (k : Key) : Lit := .string (keyBytes [.string k.g.data.toList, .string k.t.data.toList, .int .i64 k.i])

theorem laidOut : laidOutB Try.prog = true := by kernel_rfl
theorem kLaw : Keyed Try.prog 36 := Keyed.of_law (deep_law_laid laidOut (m := 3) (by omega) (of_decide_eq_true (by kernel_rfl)) (by kernel_rfl) (by rw [Try.underlying36]))
theorem q9 : Try.prog.cellsOf 9 = 1 := by kernel_rfl
theorem q3 : Try.prog.cellsOf 3 = 1 := by kernel_rfl
theorem q29 : Try.prog.cellsOf 29 = 2 := by kernel_rfl
theorem q36 : Try.prog.cellsOf 36 = 3 := by kernel_rfl
theorem ksize : ∃ d, Try.prog.types.size + 1 = d + 1 + 1 + 1 := ⟨138, by kernel_rfl⟩
theorem kType : Try.prog.keyType 36 = true := by kernel_rfl

theorem kl9 (d : Nat) (v : Value) : Try.prog.keyLits (d + 1) 9 [v] = match v with | .string s => if s.size ≤ maxLen then some [.string s.data.toList] else none | _ => none := by
  unfold Program.keyLits
  simp only [Try.underlying9]
  cases v <;> rfl
theorem kl3 (d : Nat) (v : Value) : Try.prog.keyLits (d + 1) 3 [v] = match v with | .int q n => if q = .i64 ∧ (Lit.int .i64 n).wf = true then some [.int .i64 n] else none | _ => none := by
  unfold Program.keyLits
  simp only [Try.underlying3]
  cases v <;> rfl
theorem kl29' (d : Nat) (v u : Value) (A B : Option (List Lit)) (h1 : Try.prog.keyLits d 9 [v] = A) (h2 : Try.prog.keyLits d 3 [u] = B) : Try.prog.keyLits (d + 1) 29 [v, u] = A.bind fun x => B.bind fun y => some (x ++ y) := by
  unfold Program.keyLits
  simp only [Try.underlying29, q29]
  cases A <;> cases B <;> simp [q9, q3, h1, h2]
theorem kl29 (d : Nat) (v u : Value) : Try.prog.keyLits (d + 1) 29 [v, u] = (Try.prog.keyLits d 9 [v]).bind fun x => (Try.prog.keyLits d 3 [u]).bind fun y => some (x ++ y) := kl29' d v u _ _ rfl rfl
theorem kl36' (d : Nat) (v u t : Value) (A B : Option (List Lit)) (h1 : Try.prog.keyLits d 9 [v] = A) (h2 : Try.prog.keyLits d 29 [u, t] = B) : Try.prog.keyLits (d + 1) 36 [v, u, t] = A.bind fun x => B.bind fun y => some (x ++ y) := by
  unfold Program.keyLits
  simp only [Try.underlying36, q36]
  cases A <;> cases B <;> simp [q9, q29, h1, h2]
theorem kl36 (d : Nat) (v u t : Value) : Try.prog.keyLits (d + 1) 36 [v, u, t] = (Try.prog.keyLits d 9 [v]).bind fun x => (Try.prog.keyLits d 29 [u, t]).bind fun y => some (x ++ y) := kl36' d v u t _ _ rfl rfl

theorem keyOf_mk {k : Key} (h : KeyOK k) : keyOf Try.prog 36 (keyV k) = some (keyL k) := by
  unfold keyOf
  rw [Try.underlying36]
  obtain ⟨d, hd⟩ := ksize
  simp only [kType, keyV, Value.formed, Try.underlying36, q36, List.size_toArray, List.length_cons, List.length_nil, Nat.zero_add, Nat.reduceAdd, BEq.rfl, Bool.true_and, if_true, Value.cells, hd]
  rw [kl36, kl29, kl9, kl9, kl3]
  simp [h.g, h.t, h.i, keyL]

set_option maxRecDepth 100000 in
theorem keyOf_inv {v : Value} {l : Lit} (h : keyOf Try.prog 36 v = some l) : ∃ k, KeyOK k ∧ v = keyV k ∧ l = keyL k := by
  simp only [keyOf, Try.underlying36] at h
  obtain ⟨d, hd⟩ := ksize
  simp only [kType, Bool.true_and, hd] at h
  split at h
  · rename_i hf
    cases v <;> simp [Value.formed, Try.underlying36, q36] at hf
    rename_i cs
    obtain ⟨l0⟩ := cs
    simp at hf
    match l0, hf with
    | [c0, c1, c2], _ =>
      simp only [Value.cells] at h
      rw [kl36, kl29, kl9, kl9, kl3] at h
      cases c0 <;> try (simp at h; done)
      cases c1 <;> try (simp at h; done)
      cases c2 <;> try (simp at h; done)
      rename_i a b q n hx
      by_cases hg : a.size ≤ maxLen
      · by_cases ht : b.size ≤ maxLen
        · by_cases hi : q = .i64 ∧ (Lit.int .i64 n).wf = true
          · obtain ⟨rfl, hi⟩ := hi
            simp only [hg, ht, hi, if_true, and_self, Option.bind_some, Option.map_some] at h
            injection h with h
            exact ⟨⟨a, b, n⟩, ⟨hg, ht, hi⟩, rfl, h.symm⟩
          · simp [hi] at h
        · simp [ht] at h
      · simp [hg] at h
  · cases h

theorem keyV_inj {a b : Key} (h : keyV a = keyV b) : a = b := by
  cases a; cases b
  simp [keyV] at h
  simp [h]
theorem keyL_inj {a b : Key} (ha : KeyOK a) (hb : KeyOK b) (h : keyL a = keyL b) : a = b :=
  keyV_inj (kLaw.inj (keyOf_mk ha) (by rw [h]; exact keyOf_mk hb))

/-! ### The table's rows -/
abbrev Row := Key × Int
def getL (L : List Row) (k : Key) : Option Int := (L.find? fun r => r.1 = k).map (·.2)
structure RowsOK (L : List Row) : Prop where
  nodup : (L.map (·.1)).Nodup
  ok : ∀ r ∈ L, KeyOK r.1 ∧ (Lit.int .i64 r.2).wf = true
def dat (n : Int) : DataW Unit := .lit (.int .i64 n)
/-- Block b of w is a map that holds just these rows. -/
def TabM (w : World) (b : Nat) (L : List Row) : Prop :=
  RowsOK L ∧ ∃ D : DataW Unit, w.ownsMap Try.prog 36 (plainElem Try.prog 3) b (Maps.size D) D ∧ Maps.size D = L.length ∧
    (∀ k, KeyOK k → ∀ z, D.atKey (keyL k) z = match getL L k with | some a => dat a | none => z)

theorem getL_some {L : List Row} {k : Key} {a : Int} (h : getL L k = some a) : (k, a) ∈ L := by
  unfold getL at h
  cases hf : L.find? fun r => r.1 = k with
  | none => rw [hf] at h; cases h
  | some r =>
    rw [hf] at h
    have h1 := List.find?_some hf
    have h2 := List.mem_of_find?_eq_some hf
    simp at h h1
    obtain ⟨x, y⟩ := r
    simp at h h1
    subst h h1
    exact h2
theorem getL_none {L : List Row} {k : Key} (h : getL L k = none) : ∀ r ∈ L, r.1 ≠ k := by
  unfold getL at h
  simp at h
  intro r hr e
  exact h r.1 r.2 hr e
theorem getL_mem {L : List Row} (hn : (L.map (·.1)).Nodup) {k : Key} {a : Int} (h : (k, a) ∈ L) : getL L k = some a := by
  cases hg : getL L k with
  | none => exact absurd rfl (getL_none hg _ h)
  | some b =>
    have h2 := getL_some hg
    rw [List.nodup_iff_pairwise_ne, List.pairwise_map] at hn
    have : ∀ (l : List Row), l.Pairwise (fun x y => x.1 ≠ y.1) → (k, a) ∈ l → (k, b) ∈ l → a = b := by
      intro l
      induction l with
      | nil => intro _ h; cases h
      | cons x r ih =>
        intro hp h3 h4
        obtain ⟨p1, p2⟩ := List.pairwise_cons.1 hp
        rcases List.mem_cons.1 h3 with rfl | h6
        · rcases List.mem_cons.1 h4 with h5 | h4
          · injection h5 with _ h5; exact h5.symm
          · exact (p1 (k, b) h4 rfl).elim
        · rcases List.mem_cons.1 h4 with rfl | h4
          · exact (p1 (k, a) h6 rfl).elim
          · exact ih p2 h6 h4
    rw [this L hn h h2]
/-- Rows with the same keys' readings are the same, but for their order. -/
theorem rows_perm {L L' : List Row} (hn : (L.map (·.1)).Nodup) (hn' : (L'.map (·.1)).Nodup) (h : ∀ k, getL L k = getL L' k) : L.Perm L' := by
  have nd : ∀ l : List Row, (l.map (·.1)).Nodup → l.Nodup := fun l h => by
    rw [List.nodup_iff_pairwise_ne, List.pairwise_map] at h
    rw [List.nodup_iff_pairwise_ne]
    exact h.imp fun {a b} hne e => hne (by rw [e])
  refine (List.perm_ext_iff_of_nodup (nd _ hn) (nd _ hn')).2 fun r => ?_
  obtain ⟨k, a⟩ := r
  constructor
  · intro hm; exact getL_some (by rw [← h]; exact getL_mem hn hm)
  · intro hm; exact getL_some (by rw [h]; exact getL_mem hn' hm)
theorem getL_perm {L L' : List Row} (hn : (L.map (·.1)).Nodup) (h : L.Perm L') (k : Key) : getL L' k = getL L k := by
  have hn' : (L'.map (·.1)).Nodup := (h.map _).nodup_iff.1 hn
  cases hg : getL L k with
  | some a => exact getL_mem hn' (h.mem_iff.1 (getL_some hg))
  | none =>
    cases hg' : getL L' k with
    | none => rfl
    | some a => exact absurd rfl (getL_none hg _ (h.mem_iff.2 (getL_some hg')))

theorem zero3 (w : World) : (zeroValue 3).run Try.prog w = .ok (.int .i64 0) w := by kernel_rfl
theorem TabM.lt {w : World} {b : Nat} {L : List Row} (h : TabM w b L) : b < w.heap.size := by
  obtain ⟨-, D, h1, -⟩ := h; exact h1.lt
theorem TabM.to {w w' : World} {b : Nat} {L : List Row} (h : TabM w b L) (hb : w'.heap[b]? = w.heap[b]?) : TabM w' b L := by
  obtain ⟨h0, D, ⟨es, clock, h1, h2⟩, h3⟩ := h
  exact ⟨h0, D, ⟨es, clock, hb.trans h1, h2⟩, h3⟩
theorem TabM.fr {w w' : World} {b : Nat} {L : List Row} {S : Nat → Prop} (h : TabM w b L) (hf : Fr S w w') (hb : ¬ S b) : TabM w' b L := h.to (hf.block b h.lt hb)
theorem TabM.perm {w : World} {b : Nat} {L L' : List Row} (h : TabM w b L) (hp : L.Perm L') : TabM w b L' := by
  obtain ⟨h0, D, h1, h2, h3⟩ := h
  refine ⟨⟨(hp.map _).nodup_iff.1 h0.nodup, fun r hr => h0.ok r (hp.mem_iff.2 hr)⟩, D, h1, h2.trans hp.length_eq, fun k hk z => ?_⟩
  rw [h3 k hk z, getL_perm h0.nodup hp]
theorem TabM.made (w : World) : TabM (w.alloc (.map #[] 0)) w.heap.size [] :=
  ⟨⟨List.nodup_nil, by simp⟩, .map [], World.ownsMap_made w Try.prog 36 _, rfl, fun _ _ _ => rfl⟩
theorem TabM.has {w : World} {b : Nat} {L : List Row} {D : DataW Unit} (h3 : ∀ k, KeyOK k → ∀ z, D.atKey (keyL k) z = match getL L k with | some a => dat a | none => z) {k : Key} (hk : KeyOK k) : Maps.has D (keyL k) = (getL L k).isSome := by
  cases hf : getL L k with
  | none => exact has_false_of_atKey fun z => by rw [h3 k hk, hf]
  | some x => exact has_true_of_atKey (y := dat x) fun z => by rw [h3 k hk, hf]
/-- 'at, is := t.at[k]'. -/
theorem TabM.look {w : World} {b : Nat} {L : List Row} (h : TabM w b L) {k : Key} (hk : KeyOK k) :
    (Instr.lookup 56 (.map (some b)) (keyV k) true).run Try.prog w = .ok (.tuple #[.int .i64 ((getL L k).getD 0), .bool (getL L k).isSome]) w := by
  obtain ⟨h0, D, h1, h2, h3⟩ := h
  obtain ⟨v, ps, hr, hv⟩ := h1.look_ok kLaw Try.underlying56 (zero3 w) (plainElem_int Try.underlying3 (by decide)) (keyOf_mk hk)
  rw [hr, TabM.has (w := w) (b := b) h3 hk]
  rw [h3 k hk] at hv
  obtain ⟨a, rfl, ha, -⟩ := plainElem_int_inv Try.underlying3 hv
  simp only [Prod.mk.injEq] at ha
  cases hf : getL L k with
  | none => rw [hf] at ha; have := ha.1; simp at this; subst this; rfl
  | some x => rw [hf] at ha; have := ha.1; simp [dat] at this; subst this; rfl
/-- 'len(t.at)'. -/
theorem TabM.len {w : World} {b : Nat} {L : List Row} (h : TabM w b L) (ty : TypeId) : (Builtin.len_ #[56] ty #[.map (some b)]).run Try.prog w = .ok (.int .i64 (L.length : Nat)) w := by
  obtain ⟨h0, D, h1, h2, h3⟩ := h
  rw [h1.len Try.underlying56 ty, h2]

theorem own_tight {w : World} {b n : Nat} {D : DataW Unit} (h : w.ownsMap Try.prog 36 (plainElem Try.prog 3) b n D) : w.ownsMap Try.prog 36 (plainElem Try.prog 3) b (Maps.size D) D := by
  obtain ⟨es, clock, h1, h2, h3, h4⟩ := h
  exact ⟨es, clock, h1, h2, by rw [h4]; simp [Maps.size, length_sorted], h4⟩
/-- The rows with one that is new, or has another value. -/
def putR (L : List Row) (k : Key) (a : Int) : List Row := (k, a) :: L.filter fun r => r.1 ≠ k
def delL (L : List Row) (k : Key) : List Row := L.filter fun r => r.1 ≠ k
theorem getL_filter (L : List Row) (p : Key → Bool) (k : Key) : getL (L.filter fun r => p r.1) k = if p k then getL L k else none := by
  unfold getL
  induction L with
  | nil => simp
  | cons x r ih =>
    by_cases hx : x.1 = k
    · subst hx
      by_cases hp : p x.1
      · simp [hp]
      · simp [hp] at ih ⊢
        exact ih
    · by_cases hp : p x.1 = true <;> simp only [List.filter_cons, hp, if_true, List.find?_cons, hx, decide_false, Bool.false_eq_true, if_false] <;> exact ih
theorem getL_put (L : List Row) (k : Key) (a : Int) (k' : Key) : getL (putR L k a) k' = if k' = k then some a else getL L k' := by
  unfold putR
  by_cases e : k' = k
  · subst e; simp [getL]
  · have h1 : getL ((k, a) :: L.filter fun r => r.1 ≠ k) k' = getL (L.filter fun r => r.1 ≠ k) k' := by
      unfold getL
      rw [List.find?_cons_of_neg]
      simp; exact fun h => e h.symm
    rw [h1, if_neg e]
    have := getL_filter L (fun x => x ≠ k) k'
    simp only [e, ne_eq, not_false_eq_true, decide_true, if_true] at this
    exact this
theorem getL_del (L : List Row) (k k' : Key) : getL (delL L k) k' = if k' = k then none else getL L k' := by
  have := getL_filter L (fun x => x ≠ k) k'
  unfold delL
  rw [this]
  by_cases e : k' = k <;> simp [e]
theorem len_strike {L : List Row} (hn : (L.map (·.1)).Nodup) (k : Key) : (delL L k).length + (if (getL L k).isSome then 1 else 0) = L.length := by
  induction L with
  | nil => simp [delL, getL]
  | cons x r ih =>
    obtain ⟨h1, h2⟩ := List.nodup_cons.1 hn
    have ih := ih h2
    by_cases hx : x.1 = k
    · subst hx
      have : getL r x.1 = none := by
        cases hg : getL r x.1 with
        | none => rfl
        | some a => exact absurd (List.mem_map.2 ⟨_, getL_some hg, rfl⟩) h1
      rw [this] at ih
      simp [delL, getL] at ih ⊢
      exact ih
    · have e1 : getL (x :: r) k = getL r k := by unfold getL; rw [List.find?_cons_of_neg]; simpa using hx
      rw [e1]
      simp [delL, hx] at ih ⊢
      omega
theorem rows_del {L : List Row} (h : RowsOK L) (k : Key) : RowsOK (delL L k) :=
  ⟨h.nodup.sublist (List.filter_sublist.map _), fun r hr => h.ok r (List.mem_filter.1 hr).1⟩
theorem rows_put {L : List Row} (h : RowsOK L) {k : Key} (hk : KeyOK k) {a : Int} (ha : (Lit.int .i64 a).wf = true) : RowsOK (putR L k a) := by
  refine ⟨?_, fun r hr => ?_⟩
  · unfold putR
    rw [List.map_cons, List.nodup_cons]
    refine ⟨fun hm => ?_, (rows_del h k).nodup⟩
    obtain ⟨r, hr, e⟩ := List.mem_map.1 hm
    have := (List.mem_filter.1 hr).2
    simp at this
    exact this e
  · rcases List.mem_cons.1 hr with rfl | hr
    · exact ⟨hk, ha⟩
    · exact (rows_del h k).ok r hr

section
variable {ops : Array Oper} {rest : List Oper} {o : Oper} {a : Act} {Q : Exit → Act → World → Prop}
theorem TabM.put {w w' : World} {b n : Nat} {L : List Row} {D : DataW Unit} (h0 : RowsOK L) (h1 : w.ownsMap Try.prog 36 (plainElem Try.prog 3) b n D) (h2 : Maps.size D = L.length)
    (h3 : ∀ k, KeyOK k → ∀ z, D.atKey (keyL k) z = match getL L k with | some a => dat a | none => z) {k : Key} (hk : KeyOK k) {x : Int} (hx : (Lit.int .i64 x).wf = true)
    {m : Nat} (h4 : w'.ownsMap Try.prog 36 (plainElem Try.prog 3) b m (D.put (keyL k) (dat x))) : TabM w' b (putR L k x) := by
  have isk : WideAt.IsKeyLit (keyL k) := trivial
  refine ⟨rows_put h0 hk hx, _, own_tight h4, ?_, fun k' hk' z => ?_⟩
  · rw [size_put (h1.tidy kLaw), TabM.has (w := w) (b := b) h3 hk, h2]
    have := len_strike h0.nodup k
    have e : (putR L k x).length = (delL L k).length + 1 := rfl
    rw [e]
    cases hs : (getL L k).isSome <;> rw [hs] at this <;> simp at this ⊢ <;> omega
  · rw [getL_put]
    by_cases e : k' = k
    · subst e
      rw [atKey_put_same h1.isMap isk]; simp
    · rw [atKey_put_other (fun h => e (keyL_inj hk' hk h)), h3 k' hk', if_neg e]
theorem wpList_put (w : World) (hg : o.guard = none) (m x v : Operand) (hop : o.op = Op.mapUpdate 56 m x v) (b : Nat) (L : List Row) (hm : a.eval m = .map (some b)) (ht : TabM w b L) (hn : L.length < 1000000)
    (k : Key) (hx : a.eval x = keyV k) (hk : KeyOK k) (n : Int) (hv : a.eval v = .int .i64 n) (hw : (Lit.int .i64 n).wf = true)
    (hK : ∀ w', TabM w' b (putR L k n) → w.grownBy w' (some b) → wpList Try.prog ops Q rest (a.put o.dst undef) w') : wpList Try.prog ops Q (o :: rest) a w := by
  obtain ⟨h0, D, h1, h2, h3⟩ := ht
  refine wpList_mapUpdate_own w hg m x v 56 hop 36 3 kLaw Try.underlying56 (plainElem Try.prog 3) b _ D hm h1 (by rw [h2]; unfold maxLen; omega) (keyV k) (.int .i64 n) _ hx hv (keyOf_mk hk) (dat n) [] (plainElem_int Try.underlying3 hw) fun w' h7 h8 => hK w' (TabM.put h0 h1 h2 h3 hk hw h7) h8
theorem TabM.del {w w' : World} {b n : Nat} {L : List Row} {D : DataW Unit} (h0 : RowsOK L) (h1 : w.ownsMap Try.prog 36 (plainElem Try.prog 3) b n D) (h2 : Maps.size D = L.length)
    (h3 : ∀ k, KeyOK k → ∀ z, D.atKey (keyL k) z = match getL L k with | some a => dat a | none => z) {k : Key} (hk : KeyOK k)
    {m : Nat} (h4 : w'.ownsMap Try.prog 36 (plainElem Try.prog 3) b m (D.del (keyL k))) : TabM w' b (delL L k) := by
  refine ⟨rows_del h0 k, _, own_tight h4, ?_, fun k' hk' z => ?_⟩
  · have e1 := size_del (k := keyL k) (h1.tidy kLaw)
    rw [TabM.has (w := w) (b := b) h3 hk] at e1
    have := len_strike h0.nodup k
    omega
  · rw [getL_del]
    by_cases e : k' = k
    · subst e
      rw [atKey_del_same]; simp
    · rw [atKey_del_other (fun h => e (keyL_inj hk' hk h)), h3 k' hk', if_neg e]
theorem wpList_del (w : World) (hg : o.guard = none) (m x : Operand) (hop : o.op = Op.call { callee := Callee.builtin Builtin.delete, args := #[m, x], argTypes := #[56, 36] }) (b : Nat) (L : List Row) (hm : a.eval m = .map (some b)) (ht : TabM w b L)
    (k : Key) (hx : a.eval x = keyV k) (hk : KeyOK k)
    (hK : ∀ w', TabM w' b (delL L k) → w.grownBy w' (some b) → wpList Try.prog ops Q rest (a.put o.dst (.tuple #[])) w') : wpList Try.prog ops Q (o :: rest) a w := by
  obtain ⟨h0, D, h1, h2, h3⟩ := ht
  exact wpList_delete_own w hg m x 56 36 hop 3 kLaw Try.underlying56 (plainElem Try.prog 3) b _ D hm h1 (keyV k) _ hx (keyOf_mk hk) fun w' h7 h8 => hK w' (TabM.del h0 h1 h2 h3 hk h7) h8.grown
end
end Go.Proofs.Ytdgdhegbcjimbaa
