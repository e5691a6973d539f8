/-
  DERIVED: THE SHELF's CONTRACTS AT THIS DUMP, IN PLAIN WORDS (tools/lay-plain.mjs out of 'TryzShelf.lean', which tools/lay-shelf.mjs wrote): THE SAME DECLARATIONS UNDER THE SAME NAMES: 'import', 'namespace', 'open', 'def', 'theorem' AND NOTHING ELSE: no command of the shelf's: FOR A HAND-IN. Each laying: the table of numbers ('.._ren') and one theorem, a field a fact of the dump's own or the kernel's comparison; each contract: ONE APPLICATION.
-/
import Derived.Shelf.Strings.Builder1
import Derived.Shelf.Small.Bits
import Derived.Shelf.Small.Wraps
import Derived.Shelf.Strings.BuilderF
import Derived.Shelf.Strings.BuilderK
import Derived.Shelf.Strconv.Itoa0
import Derived.Shelf.Strings.Prefix
import Derived.Shelf.Unicode.Decode
import Derived.Shelf.Unicode.DecodeSlow
import Derived.Shelf.Unicode.DecodeAny
import Derived.Shelf.Strings.BuilderCap
import Derived.Shelf.Slices.Turned
import Derived.Ground.Names2Prog
import Derived.Shelf.Slices.Clone
import Derived.Shelf.Slices.SearchI
import Derived.Shelf.Slices.Empties
import Derived.Ground.SlgnProg
import Derived.Shelf.SlicesE.Clone
import Derived.Test.YtfdhofabgdkkkaaGreatDoorProg
import Derived.Test.YtfdhofabgdkkkaaGreatDoorU4
import Derived.Test.YtfdhofabgdkkkaaGreatDoorU1
import Derived.Maps.OwnSet
import Derived.DeepKeys4
import Derived.BigQuiet
namespace Go.Proofs
open Go.Shelf
def Tryz.lays169_ren : Go.Shelf.Ren := ⟨fun | 169 => 246 | n => n, fun | 70 => 356 | 9 => 9 | 0 => 0 | 72 => 358 | 37 => 305 | 127 => 393 | 3 => 3 | 5 => 5 | n => n, fun | n => n⟩
theorem Tryz.lays169 : Go.Proofs.Lays.n169 Tryz.prog Tryz.lays169_ren := {
 mixed := by kernel_rfl
 f169 := Tryz.func246.trans (congrArg some (by kernel_rfl))
 t0 := Tryz.underlying0
 a0 := Tryz.isAgg0
 z0 := Tryz.sizeOf0
 v0 := Tryz.zeroValue0
 t3 := Tryz.underlying3
 a3 := Tryz.isAgg3
 z3 := Tryz.sizeOf3
 v3 := Tryz.zeroValue3
 t9 := Tryz.underlying9
 a9 := Tryz.isAgg9
 z9 := Tryz.sizeOf9
 v9 := Tryz.zeroValue9
 t37 := Tryz.underlying305
 a37 := Tryz.isAgg305
 z37 := Tryz.sizeOf305
 v37 := Tryz.zeroValue305
 t70 := Tryz.underlying356
 a70 := Tryz.isAgg356
 z70 := Tryz.sizeOf356
 v70 := Tryz.zeroValue356
 t72 := Tryz.underlying358
 a72 := Tryz.isAgg358
 z72 := Tryz.sizeOf358
 v72 := Tryz.zeroValue358
 t127 := Tryz.underlying393
 a127 := Tryz.isAgg393
 z127 := Tryz.sizeOf393
 v127 := Tryz.zeroValue393 }
theorem Tryz.Builder_Extra_169 : Builder.Extra Tryz.prog Tryz.lays169_ren := {
 sizeBuilder := by kernel_rfl
 liesBuilder := by kernel_rfl
 t5 := Tryz.underlying5
 a5 := Tryz.isAgg5
 z5 := Tryz.sizeOf5
 v5 := Tryz.zeroValue5
 infoByte := by kernel_rfl
 cellsByte := by kernel_rfl
 sizeByte := by kernel_rfl
 neB5 := by decide }
open Go.RowKit in
/-- (*strings.Builder).String: "String returns the accumulated string.": WHATEVER THE BUILDER HOLDS. (LAID: no walk: one application.) -/
theorem Tryz.Builder_String_any (B b : Nat) (l : List UInt8) (w : World) (h : Lib.IsBuilder 358 5 B b (Lib.byteCells l) w) (hBw : B ≤ w.heap.size) :
  Calls Tryz.prog 246 #[.pointer (some ⟨b, 0, none⟩)] w fun e w' => e = .returned (.string ⟨l.toArray⟩) ∧ Below B w w' := Any.Builder_String_any Tryz.lays169 Tryz.Builder_Extra_169 B b l w h hBw
end Go.Proofs
/- Maps as lists of rows: keys of any kind, elements of any kind. -/
namespace Go.Proofs.YtfdhofabgdkkkaaGreatDoor
open Go.RowKit Go.Fm Go.BigFrame Go.Shelf Go.Maps
set_option linter.unusedVariables false
set_option linter.unusedSimpArgs false
set_option maxRecDepth 100000
/-- A kind of keys. -/
structure KK (K : Type) where
 kt : TypeId
 kv : K → Value
 kl : K → Lit
 ok : K → Prop
structure KKLaw {K : Type} (q : KK K) : Prop where
 keyed : Keyed Tryz.prog q.kt
 key : ∀ k, q.ok k → keyOf Tryz.prog q.kt (q.kv k) = some (q.kl k)
 inj : ∀ a b, q.ok a → q.ok b → q.kl a = q.kl b → a = b
 isk : ∀ k, WideAt.IsKeyLit (q.kl k)
/-- Any element reads as itself. -/
def anyR : Value → Option (DataW Value × List MemPlace) := fun v => some (.held v, [])
section
variable {K : Type} {q : KK K}
theorem own_tightG {w : World} {b n : Nat} {D : DataW Value} (h : w.ownsMap Tryz.prog q.kt anyR b n D) : w.ownsMap Tryz.prog q.kt anyR b (Maps.size D) D := by
 obtain ⟨es, clock, h1, h2, h3, h4⟩ := h
 exact ⟨es, clock, h1, h2, by rw [h4]; simp [Maps.size, length_sorted], h4⟩
end
section
variable {K : Type} [DecidableEq K] {q : KK K}
def getG (L : List (K × Value)) (k : K) : Option Value := (L.find? fun r => r.1 = k).map (·.2)
structure RowsG (q : KK K) (L : List (K × Value)) : Prop where
 nodup : (L.map (·.1)).Nodup
 ok : ∀ r ∈ L, q.ok r.1
/-- Block b of w is a map that holds just these rows. -/
def MapG (q : KK K) (w : World) (b : Nat) (L : List (K × Value)) : Prop :=
 RowsG q L ∧ ∃ D : DataW Value, w.ownsMap Tryz.prog q.kt anyR b (Maps.size D) D ∧ Maps.size D = L.length ∧
  (∀ k : K, q.ok k → ∀ z, D.atKey (q.kl k) z = match getG L k with | some a => .held a | none => z)
theorem getG_some {L : List (K × Value)} {k : K} {a : Value} (h : getG L k = some a) : (k, a) ∈ L := by
 unfold getG at h
 cases hf : L.find? fun r => r.1 = k with
 | none => rw [hf] at h; cases h
 | some r =>
  rw [hf] at h
  have h1 := List.find?_some hf
  have h2 := List.mem_of_find?_eq_some hf
  simp at h h1
  obtain ⟨x, y⟩ := r
  simp at h h1
  subst h h1
  exact h2
theorem MapG.lt {w : World} {b : Nat} {L : List (K × Value)} (h : MapG q w b L) : b < w.heap.size := by
 obtain ⟨-, D, h1, -⟩ := h; exact h1.lt
theorem MapG.to {w w' : World} {b : Nat} {L : List (K × Value)} (h : MapG q w b L) (hb : w'.heap[b]? = w.heap[b]?) : MapG q w' b L := by
 obtain ⟨h0, D, ⟨es, clock, h1, h2⟩, h3⟩ := h
 exact ⟨h0, D, ⟨es, clock, hb.trans h1, h2⟩, h3⟩
theorem MapG.fr {w w' : World} {b : Nat} {L : List (K × Value)} {S : Nat → Prop} (h : MapG q w b L) (hf : Fr S w w') (hb : ¬ S b) : MapG q w' b L := h.to (hf.block b h.lt hb)
theorem MapG.made (q : KK K) (w : World) : MapG q (w.alloc (.map #[] 0)) w.heap.size [] :=
 ⟨⟨List.nodup_nil, by simp⟩, .map [], World.ownsMap_made w Tryz.prog q.kt _, rfl, fun _ _ _ => rfl⟩
theorem MapG.has {L : List (K × Value)} {D : DataW Value} (h3 : ∀ k : K, q.ok k → ∀ z, D.atKey (q.kl k) z = match getG L k with | some a => .held a | none => z) {k : K} (hk : q.ok k) : Maps.has D (q.kl k) = (getG L k).isSome := by
 cases hf : getG L k with
 | none => exact has_false_of_atKey fun z => by rw [h3 k hk, hf]
 | some x => exact has_true_of_atKey (y := .held x) fun z => by rw [h3 k hk, hf]
theorem anyR_inv {v x : Value} {ps : List MemPlace} (h : anyR v = some (.held x, ps)) : v = x := by
 unfold anyR at h
 simp at h
 exact h.1
/-- 'v, is := m[k]'; z: the element's zero. -/
theorem MapG.look (Q : KKLaw q) {w : World} {b : Nat} {L : List (K × Value)} {mt et : TypeId} {z : Value} (h : MapG q w b L) (ht : Tryz.prog.underlying mt = some (.map q.kt et)) (hz : (zeroValue et).run Tryz.prog w = .ok z w) {k : K} (hk : q.ok k) :
  (Instr.lookup mt (.map (some b)) (q.kv k) true).run Tryz.prog w = .ok (.tuple #[(getG L k).getD z, .bool (getG L k).isSome]) w := by
 obtain ⟨h0, D, h1, h2, h3⟩ := h
 obtain ⟨v, ps, hr, hv⟩ := h1.look_ok Q.keyed ht hz (show anyR z = some (.held z, []) from rfl) (Q.key k hk)
 rw [hr, MapG.has h3 hk]
 rw [h3 k hk] at hv
 cases hf : getG L k with
 | none => rw [hf] at hv; rw [anyR_inv hv]; rfl
 | some x => rw [hf] at hv; rw [anyR_inv hv]; rfl
/-- 'm[k]'. -/
theorem MapG.look1 (Q : KKLaw q) {w : World} {b : Nat} {L : List (K × Value)} {mt et : TypeId} {z : Value} (h : MapG q w b L) (ht : Tryz.prog.underlying mt = some (.map q.kt et)) (hz : (zeroValue et).run Tryz.prog w = .ok z w) {k : K} (hk : q.ok k) :
  (Instr.lookup mt (.map (some b)) (q.kv k) false).run Tryz.prog w = .ok ((getG L k).getD z) w := by
 obtain ⟨h0, D, h1, h2, h3⟩ := h
 obtain ⟨v, ps, hr, hv⟩ := h1.lookup Q.keyed ht hz (show anyR z = some (.held z, []) from rfl) (Q.key k hk)
 rw [hr]
 rw [h3 k hk] at hv
 cases hf : getG L k with
 | none => rw [hf] at hv; rw [anyR_inv hv]; rfl
 | some x => rw [hf] at hv; rw [anyR_inv hv]; rfl
def putG (L : List (K × Value)) (k : K) (a : Value) : List (K × Value) := (k, a) :: L.filter fun r => r.1 ≠ k
def delG (L : List (K × Value)) (k : K) : List (K × Value) := L.filter fun r => r.1 ≠ k
theorem getG_filter (L : List (K × Value)) (p : K → Bool) (k : K) : getG (L.filter fun r => p r.1) k = if p k then getG L k else none := by
 unfold getG
 induction L with
 | nil => simp
 | cons x r ih =>
  by_cases hx : x.1 = k
  ·subst hx
   by_cases hp : p x.1
   ·simp [hp]
   ·simp [hp] at ih ⊢
    exact ih
  ·by_cases hp : p x.1 = true <;> simp only [List.filter_cons, hp, if_true, List.find?_cons, hx, decide_false, Bool.false_eq_true, if_false] <;> exact ih
theorem getG_put (L : List (K × Value)) (k : K) (a : Value) (k' : K) : getG (putG L k a) k' = if k' = k then some a else getG L k' := by
 unfold putG
 by_cases e : k' = k
 ·subst e; simp [getG]
 ·have h1 : getG ((k, a) :: L.filter fun r => r.1 ≠ k) k' = getG (L.filter fun r => r.1 ≠ k) k' := by
   unfold getG
   rw [List.find?_cons_of_neg]
   simp; exact fun h => e h.symm
  rw [h1, if_neg e]
  have := getG_filter L (fun x => x ≠ k) k'
  simp only [e, ne_eq, not_false_eq_true, decide_true, if_true] at this
  exact this
theorem len_strikeG {L : List (K × Value)} (hn : (L.map (·.1)).Nodup) (k : K) : (delG L k).length + (if (getG L k).isSome then 1 else 0) = L.length := by
 induction L with
 | nil => simp [delG, getG]
 | cons x r ih =>
  obtain ⟨h1, h2⟩ := List.nodup_cons.1 hn
  have ih := ih h2
  by_cases hx : x.1 = k
  ·subst hx
   have : getG r x.1 = none := by
    cases hg : getG r x.1 with
    | none => rfl
    | some a => exact absurd (List.mem_map.2 ⟨_, getG_some hg, rfl⟩) h1
   rw [this] at ih
   simp [delG, getG] at ih ⊢
   exact ih
  ·have e1 : getG (x :: r) k = getG r k := by unfold getG; rw [List.find?_cons_of_neg]; simpa using hx
   rw [e1]
   simp [delG, hx] at ih ⊢
   omega
theorem rows_delG {L : List (K × Value)} (h : RowsG q L) (k : K) : RowsG q (delG L k) :=
 ⟨h.nodup.sublist (List.filter_sublist.map _), fun r hr => h.ok r (List.mem_filter.1 hr).1⟩
theorem rows_putG {L : List (K × Value)} (h : RowsG q L) {k : K} (hk : q.ok k) {a : Value} : RowsG q (putG L k a) := by
 refine ⟨?_, fun r hr => ?_⟩
 ·unfold putG
  rw [List.map_cons, List.nodup_cons]
  refine ⟨fun hm => ?_, (rows_delG h k).nodup⟩
  obtain ⟨r, hr, e⟩ := List.mem_map.1 hm
  have := (List.mem_filter.1 hr).2
  simp at this
  exact this e
 ·rcases List.mem_cons.1 hr with rfl | hr
  ·exact hk
  ·exact (rows_delG h k).ok r hr
theorem MapG.put (Q : KKLaw q) {w w' : World} {b n : Nat} {L : List (K × Value)} {D : DataW Value} (h0 : RowsG q L) (h1 : w.ownsMap Tryz.prog q.kt anyR b n D) (h2 : Maps.size D = L.length)
  (h3 : ∀ k : K, q.ok k → ∀ z, D.atKey (q.kl k) z = match getG L k with | some a => .held a | none => z) {k : K} (hk : q.ok k) {x : Value}
  {m : Nat} (h4 : w'.ownsMap Tryz.prog q.kt anyR b m (D.put (q.kl k) (.held x))) : MapG q w' b (putG L k x) := by
 have isk : WideAt.IsKeyLit (q.kl k) := Q.isk k
 refine ⟨rows_putG h0 hk, _, own_tightG h4, ?_, fun k' hk' z => ?_⟩
 ·rw [size_put (h1.tidy Q.keyed), MapG.has h3 hk, h2]
  have := len_strikeG h0.nodup k
  have e : (putG L k x).length = (delG L k).length + 1 := rfl
  rw [e]
  cases hs : (getG L k).isSome <;> rw [hs] at this <;> simp at this ⊢ <;> omega
 ·rw [getG_put]
  by_cases e : k' = k
  ·subst e
   rw [atKey_put_same h1.isMap isk]; simp
  ·rw [atKey_put_other (fun h => e (Q.inj _ _ hk' hk h)), h3 k' hk', if_neg e]
end
section
variable {K : Type} [DecidableEq K] {q : KK K} {ops : Array Oper} {rest : List Oper} {o : Oper} {a : Act} {Q : Exit → Act → World → Prop}
theorem wpList_putG (ql : KKLaw q) (w : World) (hg : o.guard = none) (mt et : TypeId) (ht : Tryz.prog.underlying mt = some (.map q.kt et)) (m x v : Operand) (hop : o.op = Op.mapUpdate mt m x v) (b : Nat) (L : List (K × Value)) (hm : a.eval m = .map (some b)) (hM : MapG q w b L) (hn : L.length < 1000000)
  (k : K) (hx : a.eval x = q.kv k) (hk : q.ok k) (u : Value) (hv : a.eval v = u)
  (hK : ∀ w', MapG q w' b (putG L k u) → w.grownBy w' (some b) → wpList Tryz.prog ops Q rest (a.put o.dst undef) w') : wpList Tryz.prog ops Q (o :: rest) a w := by
 obtain ⟨h0, D, h1, h2, h3⟩ := hM
 refine wpList_mapUpdate_own w hg m x v mt hop q.kt et ql.keyed ht anyR b _ D hm h1 (by rw [h2]; unfold maxLen; omega) (q.kv k) u _ hx hv (ql.key k hk) (.held u) [] rfl fun w' h7 h8 => hK w' (MapG.put ql h0 h1 h2 h3 hk h7) h8
end
/-- Strings, numbers as keys. -/
def strK : KK ByteArray := ⟨9, fun s => .string s, fun s => .string s.data.toList, fun s => s.size ≤ maxLen⟩
theorem strLaw : KKLaw strK := ⟨string_keyed Tryz.underlying9, fun k h => WideMaps.keyOf_string_mk Tryz.underlying9 h, fun a b _ _ h => by
 unfold strK at h
 injection h with h
 cases a; cases b; simp_all [← Array.toList_inj], fun k => trivial⟩
end Go.Proofs.YtfdhofabgdkkkaaGreatDoor
