/- Maps that the call makes, as functions of their keys. -/
import Derived.Test.YtdlnafhhkpklmaaGreatDoorY3
import Derived.Maps.OwnSet
import Derived.Test.YtdlnafhhkpklmaaGreatDoorChecked
import Derived.Lib.Hide
import Derived.WalkKit
import Derived.Lib.SliceRun
import Derived.WalkSpells
import Derived.WalkLawsBesides
import Derived.BigQuiet
import Derived.OwnWalk
import Derived.Deep.QuietTactic
import Derived.Laws.IdiomStrings
namespace Go.Proofs.YtdlnafhhkpklmaaGreatDoor
open Go.RowKit Go.Fm Go.Maps
set_option linter.unusedVariables false
set_option linter.unusedSimpArgs false
/-- Where a record stands: the number of its batch, its own in that. -/
def spotVal (p : Nat × Nat) : Value := .agg #[.int .i64 p.1, .int .i64 p.2]
def spotDat (p : Nat × Nat) : DataW Unit := .agg [.lit (.int .i64 p.1), .lit (.int .i64 p.2)]
/-- How a spot reads. -/
def spotElem : Value → Option (DataW Unit × List MemPlace)
 | .agg cs => match cs.toList with
  | [.int .i64 a, .int .i64 b] => some (.agg [.lit (.int .i64 a), .lit (.int .i64 b)], [])
  | _ => none
 | _ => none
theorem spotElem_mk (a b : Int) : spotElem (.agg #[.int .i64 a, .int .i64 b]) = some (.agg [.lit (.int .i64 a), .lit (.int .i64 b)], []) := rfl
theorem spotElem_inv {v : Value} {a b : Int} {ps : List MemPlace} (h : spotElem v = some (.agg [.lit (.int .i64 a), .lit (.int .i64 b)], ps)) : v = .agg #[.int .i64 a, .int .i64 b] := by
 unfold spotElem at h
 split at h
 ·rename_i cs
  obtain ⟨l⟩ := cs
  dsimp only at h
  split at h
  ·simp at h; obtain ⟨⟨rfl, rfl⟩, -⟩ := h; rfl
  ·cases h
 ·cases h
theorem sLaw : Keyed Tryz.prog 9 := string_keyed Tryz.underlying9
theorem iLaw : Keyed Tryz.prog 3 := int_keyed Tryz.underlying3
theorem zero57 (w : World) : (zeroValue 125).run Tryz.prog w = .ok (.agg #[.int .i64 0, .int .i64 0]) w := by kernel_rfl
theorem zero3 (w : World) : (zeroValue 3).run Tryz.prog w = .ok (.int .i64 0) w := by kernel_rfl
/-- What a map holds at each key. -/
def Holds {α : Type} (D : DataW Unit) (dat : α → DataW Unit) (f : Lit → Option α) : Prop := IsMap D ∧ ∀ kl, ∀ z, D.atKey kl z = match f kl with | some x => dat x | none => z
theorem Holds.has {α : Type} {D : DataW Unit} {dat : α → DataW Unit} {f : Lit → Option α} (h : Holds D dat f) (kl : Lit) : Maps.has D kl = (f kl).isSome := by
 have h2 := h.2 kl
 cases hf : f kl with
 | none => rw [hf] at h2; exact has_false_of_atKey h2
 | some x => rw [hf] at h2; exact has_true_of_atKey h2
theorem Holds.nil {α : Type} (dat : α → DataW Unit) : Holds (.map []) dat (fun _ => none) := ⟨isMap_empty, fun kl z => rfl⟩
theorem Holds.put {α : Type} {D : DataW Unit} {dat : α → DataW Unit} {f : Lit → Option α} (h : Holds D dat f) {k : Lit} (hk : WideAt.IsKeyLit k) (x : α) : ∃ g, Holds (D.put k (dat x)) dat g ∧ g k = some x ∧ ∀ kl, kl ≠ k → g kl = f kl := by
 classical
 refine ⟨fun kl => if kl = k then some x else f kl, ⟨h.1.put _ _, fun kl z => ?_⟩, by simp, fun kl e => by simp [e]⟩
 by_cases e : kl = k
 ·subst e; rw [atKey_put_same h.1 hk]; simp
 ·rw [atKey_put_other e, h.2 kl z]; simp [e]
/-- The map of keys: block b of w holds at most n keys; f: where each stands. -/
def KeysM (w : World) (b n : Nat) (f : ByteArray → Option (Nat × Nat)) : Prop :=
 ∃ D, w.ownsMap Tryz.prog 9 spotElem b n D ∧ ∃ g : Lit → Option (Nat × Nat), Holds D spotDat g ∧ ∀ s : ByteArray, g (.string s.data.toList) = f s
/-- The map of owners. -/
def OwnersM (w : World) (b n : Nat) (f : Int → Option Nat) : Prop :=
 ∃ D : DataW Unit, w.ownsMap Tryz.prog 3 (plainElem Tryz.prog 3) b n D ∧ ∃ g : Lit → Option Nat, Holds D (fun (n : Nat) => .lit (.int .i64 n)) g ∧ ∀ s : Int, g (.int .i64 s) = f s
theorem KeysM.fr {w w' : World} {b n : Nat} {f : ByteArray → Option (Nat × Nat)} {S : Nat → Prop} (h : KeysM w b n f) (hf : Fr S w w') (hb : ¬ S b) : KeysM w' b n f := by
 obtain ⟨D, ⟨es, clock, h1, h2⟩, h3⟩ := h
 exact ⟨D, ⟨es, clock, (hf.block b (lt_of_heap h1) hb).trans h1, h2⟩, h3⟩
theorem OwnersM.fr {w w' : World} {b n : Nat} {f : Int → Option Nat} {S : Nat → Prop} (h : OwnersM w b n f) (hf : Fr S w w') (hb : ¬ S b) : OwnersM w' b n f := by
 obtain ⟨D, ⟨es, clock, h1, h2⟩, h3⟩ := h
 exact ⟨D, ⟨es, clock, (hf.block b (lt_of_heap h1) hb).trans h1, h2⟩, h3⟩
theorem KeysM.lt {w : World} {b n : Nat} {f : ByteArray → Option (Nat × Nat)} (h : KeysM w b n f) : b < w.heap.size := by
 obtain ⟨D, h1, -⟩ := h; exact h1.lt
theorem OwnersM.lt {w : World} {b n : Nat} {f : Int → Option Nat} (h : OwnersM w b n f) : b < w.heap.size := by
 obtain ⟨D, h1, -⟩ := h; exact h1.lt
theorem KeysM.made (w : World) : KeysM (w.alloc (.map #[] 0)) w.heap.size 0 (fun _ => none) := ⟨_, World.ownsMap_made w Tryz.prog 9 spotElem, _, Holds.nil _, fun _ => rfl⟩
theorem OwnersM.made (w : World) : OwnersM (w.alloc (.map #[] 0)) w.heap.size 0 (fun _ => none) := ⟨_, World.ownsMap_made w Tryz.prog 3 _, _, Holds.nil _, fun _ => rfl⟩
/-- 'keys[k]'. -/
theorem KeysM.look {w : World} {b n : Nat} {f : ByteArray → Option (Nat × Nat)} (h : KeysM w b n f) (s : ByteArray) (hs : s.size ≤ maxLen) :
  (Instr.lookup 120 (.map (some b)) (.string s) false).run Tryz.prog w = .ok (match f s with | some p => spotVal p | none => .agg #[.int .i64 0, .int .i64 0]) w := by
 obtain ⟨D, h1, g, h2, h3⟩ := h
 obtain ⟨v, ps, hr, hv⟩ := h1.lookup sLaw Tryz.underlying120 (zero57 w) (spotElem_mk 0 0) (WideMaps.keyOf_string_mk Tryz.underlying9 hs)
 rw [hr]
 have h4 := h2.2 (.string s.data.toList) (.agg [.lit (.int .i64 0), .lit (.int .i64 0)])
 rw [h3] at h4
 rw [h4] at hv
 cases hf : f s with
 | none => rw [hf] at hv; rw [spotElem_inv hv]
 | some p => rw [hf] at hv; rw [spotElem_inv (a := p.1) (b := p.2) hv]; rfl
/-- 's, is := keys[k]'. -/
theorem KeysM.look_ok {w : World} {b n : Nat} {f : ByteArray → Option (Nat × Nat)} (h : KeysM w b n f) (s : ByteArray) (hs : s.size ≤ maxLen) :
  (Instr.lookup 120 (.map (some b)) (.string s) true).run Tryz.prog w = .ok (.tuple #[match f s with | some p => spotVal p | none => .agg #[.int .i64 0, .int .i64 0], .bool (f s).isSome]) w := by
 obtain ⟨D, h1, g, h2, h3⟩ := h
 obtain ⟨v, ps, hr, hv⟩ := h1.look_ok sLaw Tryz.underlying120 (zero57 w) (spotElem_mk 0 0) (WideMaps.keyOf_string_mk Tryz.underlying9 hs)
 rw [hr, h2.has, h3]
 have h4 := h2.2 (.string s.data.toList) (.agg [.lit (.int .i64 0), .lit (.int .i64 0)])
 rw [h3] at h4
 rw [h4] at hv
 cases hf : f s with
 | none => rw [hf] at hv; rw [spotElem_inv hv]
 | some p => rw [hf] at hv; rw [spotElem_inv (a := p.1) (b := p.2) hv]; rfl
/-- 'owner, owned := owners[p]'. -/
theorem OwnersM.look_ok {w : World} {b n : Nat} {f : Int → Option Nat} (h : OwnersM w b n f) (p : Int) (hp : (Lit.int .i64 p).wf = true) :
  (Instr.lookup 121 (.map (some b)) (.int .i64 p) true).run Tryz.prog w = .ok (.tuple #[.int .i64 ((f p).getD 0 : Nat), .bool (f p).isSome]) w := by
 obtain ⟨D, h1, g, h2, h3⟩ := h
 obtain ⟨v, ps, hr, hv⟩ := h1.look_ok iLaw Tryz.underlying121 (zero3 w) (plainElem_int Tryz.underlying3 (by decide)) (keyOf_int_mk Tryz.underlying3 hp)
 rw [hr, h2.has, h3]
 have h4 := h2.2 (.int .i64 p) (.lit (.int .i64 0))
 rw [h3] at h4
 rw [h4] at hv
 obtain ⟨a, rfl, ha, -⟩ := plainElem_int_inv Tryz.underlying3 hv
 simp only [Prod.mk.injEq] at ha
 cases hf : f p with
 | none => rw [hf] at ha; have := ha.1; simp at this; subst this; rfl
 | some x => rw [hf] at ha; have := ha.1; simp at this; subst this; rfl
section
variable {ops : Array Oper} {rest : List Oper} {o : Oper} {a : Act} {Q : Exit → Act → World → Prop}
/-- 'keys[k] = spot'. -/
theorem wpList_keys (w : World) (hg : o.guard = none) (m x v : Operand) (hop : o.op = Op.mapUpdate 120 m x v) (b n : Nat) (f : ByteArray → Option (Nat × Nat)) (hm : a.eval m = .map (some b)) (hown : KeysM w b n f) (hn : n < 1000000)
  (s : ByteArray) (hx : a.eval x = .string s) (hs : s.size ≤ maxLen) (p : Nat × Nat) (hv : a.eval v = spotVal p)
  (hK : ∀ w', KeysM w' b (n + 1) (fun t => if t = s then some p else f t) → w.grownBy w' (some b) → wpList Tryz.prog ops Q rest (a.put o.dst undef) w') : wpList Tryz.prog ops Q (o :: rest) a w := by
 obtain ⟨D, h1, g, h2, h3⟩ := hown
 obtain ⟨g', h4, h5, h6⟩ := h2.put (k := .string s.data.toList) (show WideAt.IsKeyLit (.string s.data.toList) from trivial) p
 refine wpList_mapUpdate_own w hg m x v 120 hop 9 125 sLaw Tryz.underlying120 spotElem b n D hm h1 (by unfold maxLen; omega) (.string s) (spotVal p) _ hx hv (WideMaps.keyOf_string_mk Tryz.underlying9 hs) (spotDat p) [] rfl fun w' h7 h8 => hK w' ⟨_, h7, g', h4, fun t => ?_⟩ h8
 by_cases e : t = s
 ·subst e; simp [h5]
 ·dsimp only
  rw [if_neg e, h6, h3]
  intro h; injection h with h
  exact e (by cases t; cases s; simp_all [← Array.toList_inj])
/-- 'owners[p] = i'. -/
theorem wpList_owners (w : World) (hg : o.guard = none) (m x v : Operand) (hop : o.op = Op.mapUpdate 121 m x v) (b n : Nat) (f : Int → Option Nat) (hm : a.eval m = .map (some b)) (hown : OwnersM w b n f) (hn : n < 1000000)
  (s : Int) (hx : a.eval x = .int .i64 s) (hs : (Lit.int .i64 s).wf = true) (p : Nat) (hp : p < 1000000) (hv : a.eval v = .int .i64 p)
  (hK : ∀ w', OwnersM w' b (n + 1) (fun t => if t = s then some p else f t) → w.grownBy w' (some b) → wpList Tryz.prog ops Q rest (a.put o.dst undef) w') : wpList Tryz.prog ops Q (o :: rest) a w := by
 obtain ⟨D, h1, g, h2, h3⟩ := hown
 have hw : (Lit.int .i64 (p : Int)).wf = true := by simp [Lit.wf, IntKind.min, IntKind.max, IntKind.signed, IntKind.bits]; omega
 obtain ⟨g', h4, h5, h6⟩ := h2.put (k := .int .i64 s) (show WideAt.IsKeyLit (.int .i64 s) from trivial) p
 refine wpList_mapUpdate_own w hg m x v 121 hop 3 3 iLaw Tryz.underlying121 (plainElem Tryz.prog 3) b n D hm h1 (by unfold maxLen; omega) (.int .i64 s) (.int .i64 p) _ hx hv (keyOf_int_mk Tryz.underlying3 hs) (.lit (.int .i64 p)) [] (plainElem_int Tryz.underlying3 hw) fun w' h7 h8 => hK w' ⟨_, h7, g', h4, fun t => ?_⟩ h8
 by_cases e : t = s
 ·subst e; simp [h5]
 ·dsimp only
  rw [if_neg e, h6, h3]
  intro h; injection h with _ h
  exact e h
end
end Go.Proofs.YtdlnafhhkpklmaaGreatDoor
/- Put and Text of the document: the walks. -/
namespace Go.Proofs.YtdlnafhhkpklmaaGreatDoor
open Go.RowKit Go.Fm Go.BigFrame
set_option linter.unusedVariables false
set_option linter.unusedSimpArgs false
def dig (k : Nat) : UInt8 := UInt8.ofNat k
/-- The digits of a number, to the base of 128. -/
def putL (m : Nat) : List UInt8 := if m < 128 then [dig m] else dig (m % 128 + 128) :: putL (m / 128)
termination_by m
decreasing_by omega
def zig (n : Int) : Nat := if n < 0 then 2 * (-(n + 1)).toNat + 1 else 2 * n.toNat
def putS (n : Int) : ByteArray := ⟨(putL (zig n)).toArray⟩
theorem putL_small {m : Nat} (h : m < 128) : putL m = [dig m] := by rw [putL, if_pos h]
theorem putL_big {m : Nat} (h : 128 ≤ m) : putL m = dig (m % 128 + 128) :: putL (m / 128) := by rw [putL, if_neg (by omega)]
theorem putL_len : ∀ (k m : Nat), m < 128 ^ (k + 1) → (putL m).length ≤ k + 1
 | 0, m, h => by rw [putL_small (by simpa using h)]; simp
 | k + 1, m, h => by
  by_cases hm : m < 128
  ·rw [putL_small hm]; simp
  ·rw [putL_big (by omega)]
   have : m / 128 < 128 ^ (k + 1) := by
    rw [Nat.pow_succ] at h
    exact Nat.div_lt_of_lt_mul (by rw [Nat.mul_comm]; exact h)
   have := putL_len k (m / 128) this
   simp; omega
theorem zig_lt {n : Int} (h : (Lit.int .i64 n).wf = true) : zig n < 18446744073709551616 := by
 simp [Lit.wf, IntKind.min, IntKind.max, IntKind.signed, IntKind.bits] at h
 unfold zig
 split <;> omega
theorem putS_size {n : Int} (h : (Lit.int .i64 n).wf = true) : (putS n).size ≤ 10 := by
 have h1 := zig_lt h
 have h2 := putL_len 9 (zig n) (by omega)
 simpa [putS, ByteArray.size] using h2
def byteVal (b : UInt8) : Value := .int .u8 (b.toNat : Int)
theorem byteVal_of {k : Nat} (h : k < 256) : byteVal (dig k) = .int .u8 (k : Int) := by
 unfold byteVal dig
 rw [UInt8.toNat_ofNat_of_lt' h]
theorem info5 : (Tryz.prog.info? 5).map (fun i => (i.zero, i.size, i.bytes)) = some (some (.int .u8 0), 1, 1) := by kernel_rfl
def textS (s : ByteArray) : ByteArray := putS s.size ++ s
theorem len_wf {n : Nat} (h : n ≤ 1000000000) : (Lit.int .i64 (n : Int)).wf = true := by
 simp [Lit.wf, IntKind.min, IntKind.max, IntKind.signed, IntKind.bits]; omega
theorem textS_size {s : ByteArray} (h : s.size ≤ 1000000000) : (textS s).size ≤ 10 + s.size := by
 have := putS_size (len_wf h)
 unfold textS
 rw [ByteArray.size_append]
 omega
end Go.Proofs.YtdlnafhhkpklmaaGreatDoor
