/- A whole struct stored into a block that is known whole. -/
import Derived.Test.YtdlnafhhkpklmaaGreatDoorFr
import Derived.Laws.Rows
import Derived.Laws.Tables
namespace Go.Fm
open Go.RowKit
section
variable {P : Program} {w : World} {ops : Array Oper} {rest : List Oper} {o : Oper} {a : Act} {Q : Exit → Act → World → Prop}
theorem setRow_grown (w : World) (g : Nat) (cs : Array Value) : w.grownBy (w.setRow g cs) (some g) :=
  ⟨rfl, rfl, rfl, by simp [World.setRow], fun k _ hk => by
    unfold World.setRow
    rw [Array.getElem?_modify, if_neg (fun e => hk (by rw [e]))]⟩
theorem run_store_all (w : World) (g : Nat) (ty t : TypeId) (old : Array Value) (v : Value) (hg : w.heap[g]? = some (.cells old t (0, 0))) (hs : v.cells.size = old.size) (hi : (P.info? ty).map (·.size) = some v.cells.size)
    (h1 : (v.cells.toList.all fun u => u.oneCell') = true) : (Instr.storeAt ty (.pointer (some ⟨g, 0, none⟩)) v).run P w = .ok () (w.setRow g v.cells) := by
  have h2 := run_storeCells_from (P := P) g t v.cells.toList 0 old w hg (by simp; exact hs) (fun u hu => by simpa using List.all_eq_true.1 h1 u hu)
  cases hq : P.info? ty with
  | none => rw [hq] at hi; cases hi
  | some i =>
    have hz : i.size = v.cells.size := by simpa [hq] using hi
    simp [Instr.storeAt, Instr.sureAddr, storeVar, sizeOf, typeInfo, hq, hz, Sem.run_bind, h2]
theorem wpList_store_all (hgd : o.guard = none) (ty : TypeId) (p x : Operand) (ho : o.op = .store ty p x) (g : Nat) (hp : a.eval p = .pointer (some ⟨g, 0, none⟩)) (t : TypeId) (old : Array Value) (v : Value) (hx : a.eval x = v)
    (hg : w.heap[g]? = some (.cells old t (0, 0))) (hs : v.cells.size = old.size) (hi : (P.info? ty).map (·.size) = some v.cells.size) (h1 : (v.cells.toList.all fun u => u.oneCell') = true)
    (h : ∀ w', w'.heap[g]? = some (.cells v.cells t (0, 0)) → w.grownBy w' (some g) → wpList P ops Q rest (a.put o.dst undef) w') : wpList P ops Q (o :: rest) a w := by
  refine wpList_plain hgd fun K' hK' => ?_
  have hrun := run_store_all (P := P) w g ty t old v hg hs hi h1
  unfold Oper.wp
  simp [execOp, ho, hp, hx, hrun, Result.andThen, Oper.upon]
  exact hK' _ _ (h _ (setRow_heap w g old v.cells t (0, 0) hg) (setRow_grown w g _))
end
end Go.Fm
