/- Maps as lists of rows: keys of any kind, elements of any kind. -/
import Derived.Test.YtfdhofabgdkkkaaGreatDoorQ4
import Derived.Test.YtfdhofabgdkkkaaGreatDoorQ1
import Derived.Maps.OwnSet
import Derived.DeepKeys4
import Derived.BigQuiet
import Derived.Test.YtfdhofabgdkkkaaGreatDoorChecked
import Derived.Test.YtfdhofabgdkkkaaGreatDoorQ3
import Derived.Lib.Hide
import Derived.WalkKit
import Derived.Lib.SliceRun
import Derived.WalkSpells
import Derived.WalkLawsBesides
import Derived.OwnWalk
import Derived.Deep.QuietTactic
import Derived.Laws.IdiomStrings
namespace Go.Proofs.YtfdhofabgdkkkaaGreatDoor
open Go.RowKit Go.Fm Go.BigFrame Go.Shelf Go.Maps
set_option linter.unusedVariables false
set_option linter.unusedSimpArgs false
set_option maxRecDepth 100000
/-- A kind of keys. -/
structure KK (K : Type) where
 kt : TypeId
 kv : K → Value
 kl : K → Lit
 ok : K → Prop
structure KKLaw {K : Type} (q : KK K) : Prop where
 keyed : Keyed Tryz.prog q.kt
 key : ∀ k, q.ok k → keyOf Tryz.prog q.kt (q.kv k) = some (q.kl k)
 inj : ∀ a b, q.ok a → q.ok b → q.kl a = q.kl b → a = b
 isk : ∀ k, WideAt.IsKeyLit (q.kl k)
/-- Any element reads as itself. -/
def anyR : Value → Option (DataW Value × List MemPlace) := fun v => some (.held v, [])
section
variable {K : Type} {q : KK K}
theorem own_tightG {w : World} {b n : Nat} {D : DataW Value} (h : w.ownsMap Tryz.prog q.kt anyR b n D) : w.ownsMap Tryz.prog q.kt anyR b (Maps.size D) D := by
 obtain ⟨es, clock, h1, h2, h3, h4⟩ := h
 exact ⟨es, clock, h1, h2, by rw [h4]; simp [Maps.size, length_sorted], h4⟩
end
section
variable {K : Type} [DecidableEq K] {q : KK K}
def getG (L : List (K × Value)) (k : K) : Option Value := (L.find? fun r => r.1 = k).map (·.2)
structure RowsG (q : KK K) (L : List (K × Value)) : Prop where
 nodup : (L.map (·.1)).Nodup
 ok : ∀ r ∈ L, q.ok r.1
/-- Block b of w is a map that holds just these rows. -/
def MapG (q : KK K) (w : World) (b : Nat) (L : List (K × Value)) : Prop :=
 RowsG q L ∧ ∃ D : DataW Value, w.ownsMap Tryz.prog q.kt anyR b (Maps.size D) D ∧ Maps.size D = L.length ∧
  (∀ k : K, q.ok k → ∀ z, D.atKey (q.kl k) z = match getG L k with | some a => .held a | none => z)
theorem getG_some {L : List (K × Value)} {k : K} {a : Value} (h : getG L k = some a) : (k, a) ∈ L := by
 unfold getG at h
 cases hf : L.find? fun r => r.1 = k with
 | none => rw [hf] at h; cases h
 | some r =>
  rw [hf] at h
  have h1 := List.find?_some hf
  have h2 := List.mem_of_find?_eq_some hf
  simp at h h1
  obtain ⟨x, y⟩ := r
  simp at h h1
  subst h h1
  exact h2
theorem MapG.lt {w : World} {b : Nat} {L : List (K × Value)} (h : MapG q w b L) : b < w.heap.size := by
 obtain ⟨-, D, h1, -⟩ := h; exact h1.lt
theorem MapG.to {w w' : World} {b : Nat} {L : List (K × Value)} (h : MapG q w b L) (hb : w'.heap[b]? = w.heap[b]?) : MapG q w' b L := by
 obtain ⟨h0, D, ⟨es, clock, h1, h2⟩, h3⟩ := h
 exact ⟨h0, D, ⟨es, clock, hb.trans h1, h2⟩, h3⟩
theorem MapG.fr {w w' : World} {b : Nat} {L : List (K × Value)} {S : Nat → Prop} (h : MapG q w b L) (hf : Fr S w w') (hb : ¬ S b) : MapG q w' b L := h.to (hf.block b h.lt hb)
theorem MapG.made (q : KK K) (w : World) : MapG q (w.alloc (.map #[] 0)) w.heap.size [] :=
 ⟨⟨List.nodup_nil, by simp⟩, .map [], World.ownsMap_made w Tryz.prog q.kt _, rfl, fun _ _ _ => rfl⟩
theorem MapG.has {L : List (K × Value)} {D : DataW Value} (h3 : ∀ k : K, q.ok k → ∀ z, D.atKey (q.kl k) z = match getG L k with | some a => .held a | none => z) {k : K} (hk : q.ok k) : Maps.has D (q.kl k) = (getG L k).isSome := by
 cases hf : getG L k with
 | none => exact has_false_of_atKey fun z => by rw [h3 k hk, hf]
 | some x => exact has_true_of_atKey (y := .held x) fun z => by rw [h3 k hk, hf]
theorem anyR_inv {v x : Value} {ps : List MemPlace} (h : anyR v = some (.held x, ps)) : v = x := by
 unfold anyR at h
 simp at h
 exact h.1
/-- 'v, is := m[k]'; z: the element's zero. -/
theorem MapG.look (Q : KKLaw q) {w : World} {b : Nat} {L : List (K × Value)} {mt et : TypeId} {z : Value} (h : MapG q w b L) (ht : Tryz.prog.underlying mt = some (.map q.kt et)) (hz : (zeroValue et).run Tryz.prog w = .ok z w) {k : K} (hk : q.ok k) :
  (Instr.lookup mt (.map (some b)) (q.kv k) true).run Tryz.prog w = .ok (.tuple #[(getG L k).getD z, .bool (getG L k).isSome]) w := by
 obtain ⟨h0, D, h1, h2, h3⟩ := h
 obtain ⟨v, ps, hr, hv⟩ := h1.look_ok Q.keyed ht hz (show anyR z = some (.held z, []) from rfl) (Q.key k hk)
 rw [hr, MapG.has h3 hk]
 rw [h3 k hk] at hv
 cases hf : getG L k with
 | none => rw [hf] at hv; rw [anyR_inv hv]; rfl
 | some x => rw [hf] at hv; rw [anyR_inv hv]; rfl
/-- 'm[k]'. -/
theorem MapG.look1 (Q : KKLaw q) {w : World} {b : Nat} {L : List (K × Value)} {mt et : TypeId} {z : Value} (h : MapG q w b L) (ht : Tryz.prog.underlying mt = some (.map q.kt et)) (hz : (zeroValue et).run Tryz.prog w = .ok z w) {k : K} (hk : q.ok k) :
  (Instr.lookup mt (.map (some b)) (q.kv k) false).run Tryz.prog w = .ok ((getG L k).getD z) w := by
 obtain ⟨h0, D, h1, h2, h3⟩ := h
 obtain ⟨v, ps, hr, hv⟩ := h1.lookup Q.keyed ht hz (show anyR z = some (.held z, []) from rfl) (Q.key k hk)
 rw [hr]
 rw [h3 k hk] at hv
 cases hf : getG L k with
 | none => rw [hf] at hv; rw [anyR_inv hv]; rfl
 | some x => rw [hf] at hv; rw [anyR_inv hv]; rfl
def putG (L : List (K × Value)) (k : K) (a : Value) : List (K × Value) := (k, a) :: L.filter fun r => r.1 ≠ k
def delG (L : List (K × Value)) (k : K) : List (K × Value) := L.filter fun r => r.1 ≠ k
theorem getG_filter (L : List (K × Value)) (p : K → Bool) (k : K) : getG (L.filter fun r => p r.1) k = if p k then getG L k else none := by
 unfold getG
 induction L with
 | nil => simp
 | cons x r ih =>
  by_cases hx : x.1 = k
  ·subst hx
   by_cases hp : p x.1
   ·simp [hp]
   ·simp [hp] at ih ⊢
    exact ih
  ·by_cases hp : p x.1 = true <;> simp only [List.filter_cons, hp, if_true, List.find?_cons, hx, decide_false, Bool.false_eq_true, if_false] <;> exact ih
theorem getG_put (L : List (K × Value)) (k : K) (a : Value) (k' : K) : getG (putG L k a) k' = if k' = k then some a else getG L k' := by
 unfold putG
 by_cases e : k' = k
 ·subst e; simp [getG]
 ·have h1 : getG ((k, a) :: L.filter fun r => r.1 ≠ k) k' = getG (L.filter fun r => r.1 ≠ k) k' := by
   unfold getG
   rw [List.find?_cons_of_neg]
   simp; exact fun h => e h.symm
  rw [h1, if_neg e]
  have := getG_filter L (fun x => x ≠ k) k'
  simp only [e, ne_eq, not_false_eq_true, decide_true, if_true] at this
  exact this
theorem len_strikeG {L : List (K × Value)} (hn : (L.map (·.1)).Nodup) (k : K) : (delG L k).length + (if (getG L k).isSome then 1 else 0) = L.length := by
 induction L with
 | nil => simp [delG, getG]
 | cons x r ih =>
  obtain ⟨h1, h2⟩ := List.nodup_cons.1 hn
  have ih := ih h2
  by_cases hx : x.1 = k
  ·subst hx
   have : getG r x.1 = none := by
    cases hg : getG r x.1 with
    | none => rfl
    | some a => exact absurd (List.mem_map.2 ⟨_, getG_some hg, rfl⟩) h1
   rw [this] at ih
   simp [delG, getG] at ih ⊢
   exact ih
  ·have e1 : getG (x :: r) k = getG r k := by unfold getG; rw [List.find?_cons_of_neg]; simpa using hx
   rw [e1]
   simp [delG, hx] at ih ⊢
   omega
theorem rows_delG {L : List (K × Value)} (h : RowsG q L) (k : K) : RowsG q (delG L k) :=
 ⟨h.nodup.sublist (List.filter_sublist.map _), fun r hr => h.ok r (List.mem_filter.1 hr).1⟩
theorem rows_putG {L : List (K × Value)} (h : RowsG q L) {k : K} (hk : q.ok k) {a : Value} : RowsG q (putG L k a) := by
 refine ⟨?_, fun r hr => ?_⟩
 ·unfold putG
  rw [List.map_cons, List.nodup_cons]
  refine ⟨fun hm => ?_, (rows_delG h k).nodup⟩
  obtain ⟨r, hr, e⟩ := List.mem_map.1 hm
  have := (List.mem_filter.1 hr).2
  simp at this
  exact this e
 ·rcases List.mem_cons.1 hr with rfl | hr
  ·exact hk
  ·exact (rows_delG h k).ok r hr
theorem MapG.put (Q : KKLaw q) {w w' : World} {b n : Nat} {L : List (K × Value)} {D : DataW Value} (h0 : RowsG q L) (h1 : w.ownsMap Tryz.prog q.kt anyR b n D) (h2 : Maps.size D = L.length)
  (h3 : ∀ k : K, q.ok k → ∀ z, D.atKey (q.kl k) z = match getG L k with | some a => .held a | none => z) {k : K} (hk : q.ok k) {x : Value}
  {m : Nat} (h4 : w'.ownsMap Tryz.prog q.kt anyR b m (D.put (q.kl k) (.held x))) : MapG q w' b (putG L k x) := by
 have isk : WideAt.IsKeyLit (q.kl k) := Q.isk k
 refine ⟨rows_putG h0 hk, _, own_tightG h4, ?_, fun k' hk' z => ?_⟩
 ·rw [size_put (h1.tidy Q.keyed), MapG.has h3 hk, h2]
  have := len_strikeG h0.nodup k
  have e : (putG L k x).length = (delG L k).length + 1 := rfl
  rw [e]
  cases hs : (getG L k).isSome <;> rw [hs] at this <;> simp at this ⊢ <;> omega
 ·rw [getG_put]
  by_cases e : k' = k
  ·subst e
   rw [atKey_put_same h1.isMap isk]; simp
  ·rw [atKey_put_other (fun h => e (Q.inj _ _ hk' hk h)), h3 k' hk', if_neg e]
end
section
variable {K : Type} [DecidableEq K] {q : KK K} {ops : Array Oper} {rest : List Oper} {o : Oper} {a : Act} {Q : Exit → Act → World → Prop}
theorem wpList_putG (ql : KKLaw q) (w : World) (hg : o.guard = none) (mt et : TypeId) (ht : Tryz.prog.underlying mt = some (.map q.kt et)) (m x v : Operand) (hop : o.op = Op.mapUpdate mt m x v) (b : Nat) (L : List (K × Value)) (hm : a.eval m = .map (some b)) (hM : MapG q w b L) (hn : L.length < 1000000)
  (k : K) (hx : a.eval x = q.kv k) (hk : q.ok k) (u : Value) (hv : a.eval v = u)
  (hK : ∀ w', MapG q w' b (putG L k u) → w.grownBy w' (some b) → wpList Tryz.prog ops Q rest (a.put o.dst undef) w') : wpList Tryz.prog ops Q (o :: rest) a w := by
 obtain ⟨h0, D, h1, h2, h3⟩ := hM
 refine wpList_mapUpdate_own w hg m x v mt hop q.kt et ql.keyed ht anyR b _ D hm h1 (by rw [h2]; unfold maxLen; omega) (q.kv k) u _ hx hv (ql.key k hk) (.held u) [] rfl fun w' h7 h8 => hK w' (MapG.put ql h0 h1 h2 h3 hk h7) h8
end
/-- Strings, numbers as keys. -/
def strK : KK ByteArray := ⟨9, fun s => .string s, fun s => .string s.data.toList, fun s => s.size ≤ maxLen⟩
theorem strLaw : KKLaw strK := ⟨string_keyed Tryz.underlying9, fun k h => WideMaps.keyOf_string_mk Tryz.underlying9 h, fun a b _ _ h => by
 unfold strK at h
 injection h with h
 cases a; cases b; simp_all [← Array.toList_inj], fun k => trivial⟩
end Go.Proofs.YtfdhofabgdkkkaaGreatDoor
/- Numbers and places as keys. -/
namespace Go.Proofs.YtfdhofabgdkkkaaGreatDoor
open Go.RowKit Go.Fm Go.BigFrame Go.Shelf Go.Maps
set_option linter.unusedVariables false
set_option linter.unusedSimpArgs false
set_option maxRecDepth 100000
theorem gLaidOut : laidOutB Tryz.prog = true := by kernel_rfl
theorem g3 : Tryz.prog.cellsOf 3 = 1 := by kernel_rfl
theorem gPlace : Tryz.prog.cellsOf 150 = 2 := by kernel_rfl
theorem gSize : ∃ d, Tryz.prog.types.size + 1 = d + 1 + 1 := ⟨432, by kernel_rfl⟩
theorem gKeyP : Tryz.prog.keyType 150 = true := by kernel_rfl
theorem gl3 (d : Nat) (v : Value) : Tryz.prog.keyLits (d + 1) 3 [v] = match v with | .int q n => if q = .i64 ∧ (Lit.int .i64 n).wf = true then some [.int .i64 n] else none | _ => none := by
 unfold Program.keyLits
 simp only [Tryz.underlying3]
 cases v <;> rfl
theorem glP' (d : Nat) (v u : Value) (A B : Option (List Lit)) (h1 : Tryz.prog.keyLits d 3 [v] = A) (h2 : Tryz.prog.keyLits d 3 [u] = B) : Tryz.prog.keyLits (d + 1) 150 [v, u] = A.bind fun x => B.bind fun y => some (x ++ y) := by
 unfold Program.keyLits
 simp only [Tryz.underlying150, gPlace]
 cases A <;> cases B <;> simp [g3, h1, h2]
theorem glP (d : Nat) (v u : Value) : Tryz.prog.keyLits (d + 1) 150 [v, u] = (Tryz.prog.keyLits d 3 [v]).bind fun x => (Tryz.prog.keyLits d 3 [u]).bind fun y => some (x ++ y) := glP' d v u _ _ rfl rfl
theorem kLawP : Keyed Tryz.prog 150 := Keyed.of_law (deep_law_laid gLaidOut (m := 3) (by omega) (of_decide_eq_true (by kernel_rfl)) (by kernel_rfl) (by rw [Tryz.underlying150]))
structure Place where
 id : Int
 ix : Int
deriving DecidableEq
structure PlaceOK (p : Place) : Prop where
 id : (Lit.int .i64 p.id).wf = true
 ix : (Lit.int .i64 p.ix).wf = true
def placeV (p : Place) : Value := .agg #[.int .i64 p.id, .int .i64 p.ix]
def placeL (p : Place) : Lit := .string (keyBytes [.int .i64 p.id, .int .i64 p.ix])
theorem keyOf_place {k : Place} (h : PlaceOK k) : keyOf Tryz.prog 150 (placeV k) = some (placeL k) := by
 unfold keyOf
 rw [Tryz.underlying150]
 obtain ⟨d, hd⟩ := gSize
 simp only [gKeyP, placeV, Value.formed, Tryz.underlying150, gPlace, List.size_toArray, List.length_cons, List.length_nil, Nat.zero_add, Nat.reduceAdd, BEq.rfl, Bool.true_and, if_true, Value.cells, hd]
 rw [glP, gl3, gl3]
 simp [h.id, h.ix, placeL]
theorem placeV_inj {a b : Place} (h : placeV a = placeV b) : a = b := by
 cases a; cases b
 simp [placeV] at h
 simp [h]
def placeK : KK Place := ⟨150, placeV, placeL, PlaceOK⟩
theorem placeLaw : KKLaw placeK := ⟨kLawP, fun k h => keyOf_place h, fun a b ha hb h => placeV_inj (kLawP.inj (keyOf_place ha) (by rw [show placeL a = placeL b from h]; exact keyOf_place hb)), fun k => trivial⟩
def intK : KK Int := ⟨3, fun n => .int .i64 n, fun n => .int .i64 n, fun n => (Lit.int .i64 n).wf = true⟩
theorem intLaw : KKLaw intK := ⟨int_keyed Tryz.underlying3, fun k h => keyOf_int_mk Tryz.underlying3 h, fun a b _ _ h => by
 have h2 : Lit.int .i64 a = Lit.int .i64 b := h
 injection h2, fun k => trivial⟩
end Go.Proofs.YtfdhofabgdkkkaaGreatDoor
/- Put and Text of the document: the walks. -/
namespace Go.Proofs.YtfdhofabgdkkkaaGreatDoor
open Go.RowKit Go.Fm Go.BigFrame
set_option linter.unusedVariables false
set_option linter.unusedSimpArgs false
def dig (k : Nat) : UInt8 := UInt8.ofNat k
/-- The digits of a number, to the base of 128. -/
def putL (m : Nat) : List UInt8 := if m < 128 then [dig m] else dig (m % 128 + 128) :: putL (m / 128)
termination_by m
decreasing_by omega
def zig (n : Int) : Nat := if n < 0 then 2 * (-(n + 1)).toNat + 1 else 2 * n.toNat
def putS (n : Int) : ByteArray := ⟨(putL (zig n)).toArray⟩
theorem putL_small {m : Nat} (h : m < 128) : putL m = [dig m] := by rw [putL, if_pos h]
theorem putL_big {m : Nat} (h : 128 ≤ m) : putL m = dig (m % 128 + 128) :: putL (m / 128) := by rw [putL, if_neg (by omega)]
theorem putL_len : ∀ (k m : Nat), m < 128 ^ (k + 1) → (putL m).length ≤ k + 1
 | 0, m, h => by rw [putL_small (by simpa using h)]; simp
 | k + 1, m, h => by
  by_cases hm : m < 128
  ·rw [putL_small hm]; simp
  ·rw [putL_big (by omega)]
   have : m / 128 < 128 ^ (k + 1) := by
    rw [Nat.pow_succ] at h
    exact Nat.div_lt_of_lt_mul (by rw [Nat.mul_comm]; exact h)
   have := putL_len k (m / 128) this
   simp; omega
theorem zig_lt {n : Int} (h : (Lit.int .i64 n).wf = true) : zig n < 18446744073709551616 := by
 simp [Lit.wf, IntKind.min, IntKind.max, IntKind.signed, IntKind.bits] at h
 unfold zig
 split <;> omega
theorem putS_size {n : Int} (h : (Lit.int .i64 n).wf = true) : (putS n).size ≤ 10 := by
 have h1 := zig_lt h
 have h2 := putL_len 9 (zig n) (by omega)
 simpa [putS, ByteArray.size] using h2
def byteVal (b : UInt8) : Value := .int .u8 (b.toNat : Int)
theorem byteVal_of {k : Nat} (h : k < 256) : byteVal (dig k) = .int .u8 (k : Int) := by
 unfold byteVal dig
 rw [UInt8.toNat_ofNat_of_lt' h]
theorem info5 : (Tryz.prog.info? 5).map (fun i => (i.zero, i.size, i.bytes)) = some (some (.int .u8 0), 1, 1) := by kernel_rfl
def textS (s : ByteArray) : ByteArray := putS s.size ++ s
theorem len_wf {n : Nat} (h : n ≤ 1000000000) : (Lit.int .i64 (n : Int)).wf = true := by
 simp [Lit.wf, IntKind.min, IntKind.max, IntKind.signed, IntKind.bits]; omega
theorem textS_size {s : ByteArray} (h : s.size ≤ 1000000000) : (textS s).size ≤ 10 + s.size := by
 have := putS_size (len_wf h)
 unfold textS
 rw [ByteArray.size_append]
 omega
end Go.Proofs.YtfdhofabgdkkkaaGreatDoor
