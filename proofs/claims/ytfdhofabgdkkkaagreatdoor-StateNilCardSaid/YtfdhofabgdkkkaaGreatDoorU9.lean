/- Take of varint: the walk. -/
import Derived.Test.YtfdhofabgdkkkaaGreatDoorU8
import Derived.Test.YtfdhofabgdkkkaaGreatDoorU1
import Derived.Laws.Rows
import Derived.Laws.Tables
namespace Go.Proofs.YtfdhofabgdkkkaaGreatDoor
open Go.RowKit Go.Fm Go.BigFrame
set_option linter.unusedVariables false
set_option linter.unusedSimpArgs false
theorem refV_ok {l : List UInt8} {n : Int} {k : Nat} (h : refV l = (n, k, 0)) : 1 ≤ k ∧ k ≤ l.length ∧ (Lit.int .i64 n).wf = true ∧ putL (zig n) = l.take k := by
 unfold refV at h
 dsimp only at h
 split at h
 ·cases h
 ·split at h
  ·cases h
  ·split at h
   ·rename_i h1 h2 h3
    injection h with e1 h
    injection h with e2 _
    subst e1 e2
    have hlt : val (l.take (lead 10 l + 1)) % 18446744073709551616 < 18446744073709551616 := Nat.mod_lt _ (by omega)
    exact ⟨by omega, by omega, unzig_wf hlt, by rw [zig_unzig]; exact h3⟩
   ·cases h
theorem refV_code (l : List UInt8) : (refV l).2.2 = 0 ∨ ((refV l).2.2 = 2 ∧ refV l = (0, 0, 2)) ∨ ((refV l).2.2 = 3 ∧ refV l = (0, 0, 3)) := by
 unfold refV
 dsimp only
 split
 ·exact .inr (.inr ⟨rfl, rfl⟩)
 ·split
  ·exact .inr (.inl ⟨rfl, rfl⟩)
  ·split
   ·exact .inl rfl
   ·exact .inr (.inr ⟨rfl, rfl⟩)
/-- What a number that was read came from. -/
theorem getS_ok {s : ByteArray} {a n b : Int} (h : getS s a = (n, b, 0)) : ∃ p k : Nat, a = p ∧ b = ((p + k : Nat) : Int) ∧ 1 ≤ k ∧ p + k ≤ s.size ∧ (Lit.int .i64 n).wf = true ∧ putL (zig n) = (s.data.toList.drop p).take k := by
 unfold getS at h
 split at h
 ·cases h
 ·rename_i hb
  split at h
  ·rename_i h0
   obtain ⟨p, rfl⟩ : ∃ p : Nat, a = p := ⟨a.toNat, by omega⟩
   rw [Int.toNat_natCast] at h h0
   rw [getV_eq] at h h0
   injection h with e1 h
   injection h with e2 _
   obtain ⟨n', k, hk⟩ : ∃ n' k, refV (s.data.toList.drop p) = (n', k, 0) := ⟨_, _, by
    have : refV (s.data.toList.drop p) = ((refV (s.data.toList.drop p)).1, (refV (s.data.toList.drop p)).2.1, (refV (s.data.toList.drop p)).2.2) := rfl
    rw [this, h0]⟩
   rw [hk] at e1 e2
   dsimp only at e1 e2
   subst e1 e2
   obtain ⟨h1, h2, h3, h4⟩ := refV_ok hk
   simp at h2
   exact ⟨p, k, rfl, by omega, h1, by omega, h3, h4⟩
  ·rename_i h0
   injection h with e1 h
   injection h with e2 h
   exact absurd h h0
theorem getS_code (s : ByteArray) (a : Int) : (∃ n b, getS s a = (n, b, 0)) ∨ ∃ c, getS s a = (0, 0, c) ∧ 1 ≤ c ∧ c ≤ 3 := by
 unfold getS
 split
 ·exact .inr ⟨1, rfl, by omega, by omega⟩
 ·split
  ·exact .inl ⟨_, _, rfl⟩
  ·rename_i h0
   rw [getV_eq] at h0 ⊢
   rcases refV_code (s.data.toList.drop a.toNat) with h | ⟨h, -⟩ | ⟨h, -⟩
   ·exact absurd h h0
   ·exact .inr ⟨2, by rw [h], by omega, by omega⟩
   ·exact .inr ⟨3, by rw [h], by omega, by omega⟩
/-- A text behind its length: the text, the place behind, the error. -/
def takeS (s : ByteArray) (a most : Int) : ByteArray × Int × Int :=
 if (getS s a).2.2 ≠ 0 then (ByteArray.empty, 0, (getS s a).2.2)
 else if (getS s a).1 < 0 ∨ most < (getS s a).1 then (ByteArray.empty, 0, 3)
 else if (s.size : Int) - (getS s a).2.1 < (getS s a).1 then (ByteArray.empty, 0, 2)
 else (s.extract (getS s a).2.1.toNat ((getS s a).2.1 + (getS s a).1).toNat, (getS s a).2.1 + (getS s a).1, 0)
def TakeSPost (s : ByteArray) (a most : Int) (w : World) (e : Ending) (w' : World) : Prop :=
 e = .returned (.tuple #[.string (takeS s a most).1, .int .i64 (takeS s a most).2.1, .int .i64 (takeS s a most).2.2]) ∧ w = w'
set_option maxHeartbeats 4000000 in
theorem takes_walk (s : ByteArray) (a most : Int) (w : World) (hs : s.size ≤ maxLen) : Calls Tryz.prog 187 #[.string s, .int .i64 a, .int .i64 most] w (TakeSPost s a most w) := by
 have hs9 : s.size ≤ 9223372036854775807 := by unfold maxLen at hs; omega
 have hcall := gets_walk s a w hs
 unfold GetSPost at hcall
 have HT : Hid (takeS s a most = if (getS s a).2.2 ≠ 0 then (ByteArray.empty, 0, (getS s a).2.2)
   else if (getS s a).1 < 0 ∨ most < (getS s a).1 then (ByteArray.empty, 0, 3)
   else if (s.size : Int) - (getS s a).2.1 < (getS s a).1 then (ByteArray.empty, 0, 2)
   else (s.extract (getS s a).2.1.toNat ((getS s a).2.1 + (getS s a).1).toNat, (getS s a).2.1 + (getS s a).1, 0)) := Lib.hid rfl
 rcases getS_code s a with ⟨n, b, hg⟩ | ⟨c, hg, hc1, hc2⟩
 ·obtain ⟨p, k, rfl, rfl, hk1, hk2, hwf, -⟩ := getS_ok hg
  rw [hg] at hcall HT
  have HC := Lib.hid hcall
  clear hcall hg
  dsimp only at HC HT
  simp only [ne_eq, not_true_eq_false, if_false] at HT
  have hb := hwf
  simp [Lit.wf, IntKind.min, IntKind.max, IntKind.signed, IntKind.bits] at hb
  obtain ⟨hb1, hb2⟩ := hb
  clear hwf hs
  by_cases h1 : n < 0 ∨ most < n
  ·have ht := HT.out
   rw [if_pos h1] at ht
   have HR := Lib.hid ht
   clear ht HT
   rcases h1 with h1 | h1
   ·go_enter Tryz.func187, Tryz.ntmps187
    go_wp2_with (go_at_call 183; refine HC.out.mono ?_; rintro e w' ⟨rfl, rfl⟩)
    go_ret3
    exact ⟨by rw [HR.out]; rfl, rfl⟩
   ·by_cases h0 : n < 0
    all_goals
     go_enter Tryz.func187, Tryz.ntmps187
     go_wp2_with (go_at_call 183; refine HC.out.mono ?_; rintro e w' ⟨rfl, rfl⟩)
     go_ret3
     exact ⟨by rw [HR.out]; rfl, rfl⟩
  ·have h0 : ¬ n < 0 := fun h => h1 (.inl h)
   have h2 : ¬ most < n := fun h => h1 (.inr h)
   obtain ⟨m, rfl⟩ : ∃ m : Nat, n = m := ⟨n.toNat, by omega⟩
   by_cases h3 : (s.size : Int) - ((p + k : Nat) : Int) < m
   ·have ht := HT.out
    rw [if_neg h1, if_pos h3] at ht
    have HR := Lib.hid ht
    clear ht HT h1
    go_enter Tryz.func187, Tryz.ntmps187
    go_wp2_with (go_at_call 183; refine HC.out.mono ?_; rintro e w' ⟨rfl, rfl⟩)
    go_ret3
    exact ⟨by rw [HR.out]; rfl, rfl⟩
   ·have ht := HT.out
    rw [if_neg h1, if_neg h3] at ht
    have HR := Lib.hid ht
    clear ht HT h1
    go_enter Tryz.func187, Tryz.ntmps187
    go_wp2_with (go_at_call 183; refine HC.out.mono ?_; rintro e w' ⟨rfl, rfl⟩)
    go_ret3
    exact ⟨by rw [HR.out]; rfl, rfl⟩
 ·rw [hg] at hcall HT
  have HC := Lib.hid hcall
  have ht := HT.out
  dsimp only at ht
  rw [if_pos (by omega)] at ht
  have HR := Lib.hid ht
  clear hcall hg hs ht HT
  have hq : ((c : Int) == 0) = false := by simp; omega
  have hq' : (c != 0) = true := by simp; omega
  go_enter Tryz.func187, Tryz.ntmps187
  go_wp2_with (go_at_call 183; refine HC.out.mono ?_; rintro e w' ⟨rfl, rfl⟩)
  go_ret3
  exact ⟨by rw [HR.out]; rfl, rfl⟩
end Go.Proofs.YtfdhofabgdkkkaaGreatDoor
/- A whole struct stored into a block that is known whole. -/
namespace Go.Fm
open Go.RowKit
section
variable {P : Program} {w : World} {ops : Array Oper} {rest : List Oper} {o : Oper} {a : Act} {Q : Exit → Act → World → Prop}
theorem setRow_grown (w : World) (g : Nat) (cs : Array Value) : w.grownBy (w.setRow g cs) (some g) :=
 ⟨rfl, rfl, rfl, by simp [World.setRow], fun k _ hk => by
  unfold World.setRow
  rw [Array.getElem?_modify, if_neg (fun e => hk (by rw [e]))]⟩
theorem run_store_all (w : World) (g : Nat) (ty t : TypeId) (old : Array Value) (v : Value) (hg : w.heap[g]? = some (.cells old t (0, 0))) (hs : v.cells.size = old.size) (hi : (P.info? ty).map (·.size) = some v.cells.size)
  (h1 : (v.cells.toList.all fun u => u.oneCell') = true) : (Instr.storeAt ty (.pointer (some ⟨g, 0, none⟩)) v).run P w = .ok () (w.setRow g v.cells) := by
 have h2 := run_storeCells_from (P := P) g t v.cells.toList 0 old w hg (by simp; exact hs) (fun u hu => by simpa using List.all_eq_true.1 h1 u hu)
 cases hq : P.info? ty with
 | none => rw [hq] at hi; cases hi
 | some i =>
  have hz : i.size = v.cells.size := by simpa [hq] using hi
  simp [Instr.storeAt, Instr.sureAddr, storeVar, sizeOf, typeInfo, hq, hz, Sem.run_bind, h2]
theorem wpList_store_all (hgd : o.guard = none) (ty : TypeId) (p x : Operand) (ho : o.op = .store ty p x) (g : Nat) (hp : a.eval p = .pointer (some ⟨g, 0, none⟩)) (t : TypeId) (old : Array Value) (v : Value) (hx : a.eval x = v)
  (hg : w.heap[g]? = some (.cells old t (0, 0))) (hs : v.cells.size = old.size) (hi : (P.info? ty).map (·.size) = some v.cells.size) (h1 : (v.cells.toList.all fun u => u.oneCell') = true)
  (h : ∀ w', w'.heap[g]? = some (.cells v.cells t (0, 0)) → w.grownBy w' (some g) → wpList P ops Q rest (a.put o.dst undef) w') : wpList P ops Q (o :: rest) a w := by
 refine wpList_plain hgd fun K' hK' => ?_
 have hrun := run_store_all (P := P) w g ty t old v hg hs hi h1
 unfold Oper.wp
 simp [execOp, ho, hp, hx, hrun, Result.andThen, Oper.upon]
 exact hK' _ _ (h _ (setRow_heap w g old v.cells t (0, 0) hg) (setRow_grown w g _))
end
end Go.Fm
