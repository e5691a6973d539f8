/- A machine: Do, of a request that produces. -/
import Derived.Test.YtfdhofabgdkkkaaGreatDoorQ30
namespace Go.Proofs.YtfdhofabgdkkkaaGreatDoor
open Go.RowKit Go.Fm Go.BigFrame Go.Shelf Go.Maps
set_option linter.unusedVariables false
set_option linter.unusedSimpArgs false
set_option maxRecDepth 100000
section
variable {K : Type} [DecidableEq K] {q : KK K} {ops : Array Oper} {rest : List Oper} {o : Oper} {a : Act} {Q : Exit → Act → World → Prop}
end
section
variable {w w' : World} {S : Nat → Prop}
def setP (L : List (Place × PartD)) (p : Place) (d : PartD) : List (Place × PartD) := L.map fun x => if x.1 = p then (p, d) else x
theorem findP_set {p : Place} {d d0 : PartD} {L : List (Place × PartD)} (h : findP L p = some d0) (i : Place) : findP (setP L p d) i = if i = p then some d else findP L i := by
 unfold findP setP at *
 induction L with
 | nil => simp at h
 | cons z r ih =>
  by_cases h1 : z.1 = p
  ·by_cases e : i = p
   ·subst e; simp [h1]
   ·rw [List.map_cons, if_pos h1, if_neg e, List.find?_cons_of_neg (by simp; exact fun h => e h.symm), List.find?_cons_of_neg (by simp [h1]; exact fun h => e h.symm)]
    clear ih h
    congr 1
    induction r with
    | nil => rfl
    | cons u r ih =>
     by_cases h2 : u.1 = p
     ·rw [List.map_cons, if_pos h2, List.find?_cons_of_neg (by simp; exact fun h => e h.symm), List.find?_cons_of_neg (by simp [h2]; exact fun h => e h.symm), ih]
     ·rw [List.map_cons, if_neg h2]
      by_cases h3 : u.1 = i
      ·simp [h3]
      ·rw [List.find?_cons_of_neg (by simpa using h3), List.find?_cons_of_neg (by simpa using h3), ih]
  ·rw [List.find?_cons_of_neg (by simpa using h1)] at h
   rw [List.map_cons, if_neg h1]
   by_cases h2 : z.1 = i
   ·rw [if_neg (by rw [← h2]; exact h1)]; simp [h2]
   ·rw [List.find?_cons_of_neg (by simpa using h2), List.find?_cons_of_neg (by simpa using h2), ih h]
theorem key_one {α β : Type} [DecidableEq α] {L : List (α × β)} (hn : (L.map (·.1)).Nodup) {x y : α × β} (hx : x ∈ L) (hy : y ∈ L) (h : x.1 = y.1) : x = y := by
 obtain ⟨i, hi⟩ := List.mem_iff_getElem?.1 hx
 obtain ⟨j, hj⟩ := List.mem_iff_getElem?.1 hy
 by_cases hij : i = j
 ·subst hij; rw [hi] at hj; exact Option.some.inj hj
 ·exfalso
  have a1 : (L.map (·.1))[i]? = some x.1 := by rw [List.getElem?_map, hi]; rfl
  have a2 : (L.map (·.1))[j]? = some x.1 := by rw [List.getElem?_map, hj, h]; rfl
  obtain ⟨l1, e1⟩ := List.getElem?_eq_some_iff.1 a1
  obtain ⟨l2, e2⟩ := List.getElem?_eq_some_iff.1 a2
  exact hij ((List.getElem_inj hn).1 (e1.trans e2.symm))
theorem MachA.keys {m : MachD} (h : MachA w m) : (m.L.map (·.1)).Nodup := by
 have := h.map.1.nodup
 unfold prows at this
 rw [List.map_map] at this
 exact this
/-- One partition has turned. -/
theorem MachA.set {m : MachD} (h : MachA w m) {p : Place} {d d' : PartD} (hm : (p, d) ∈ m.L) (hd : PartA w' d') (hx : d'.xb = d.xb) (hT : ∀ i, d'.T i → d.T i ∨ w.heap.size ≤ i) (hf : Fr d.T w w') : MachA w' { m with L := setP m.L p d' } := by
 have hkeys := h.keys
 have hne : ∀ x ∈ m.L, x.1 ≠ p → ∀ i, x.2.T i → ¬ d.T i := by
  intro x hx1 hp i hi hdi
  obtain ⟨a, ha⟩ := List.mem_iff_getElem?.1 hx1
  obtain ⟨b, hb⟩ := List.mem_iff_getElem?.1 hm
  have hP := List.pairwise_iff_getElem.1 h.dis
  obtain ⟨la, ea⟩ := List.getElem?_eq_some_iff.1 ha
  obtain ⟨lb, eb⟩ := List.getElem?_eq_some_iff.1 hb
  rcases Nat.lt_trichotomy a b with hab | hab | hab
  ·have := hP a b la lb hab i
   rw [ea, eb] at this
   exact this hi hdi
  ·subst hab; rw [ha] at hb; exact hp (by rw [Option.some.inj hb])
  ·have := hP b a lb la hab i
   rw [ea, eb] at this
   exact this hdi hi
 have hpr : prows (setP m.L p d') = prows m.L := by
  unfold prows setP
  rw [List.map_map]
  refine List.map_congr_left fun x hx1 => ?_
  simp only [Function.comp]
  split
  ·rename_i e
   have : x = (p, d) := key_one hkeys hx1 hm e
   subst this
   simp [hx]
  ·rfl
 obtain ⟨lowB, lowT⟩ := h.low
 have hB : ∀ i, m.B i → ¬ d.T i := fun i hi hd => h.off _ hm i hd hi
 refine ⟨(hf.block _ (lt_of_heap h.b) (hB _ (.inl rfl))).trans h.b, h.top.fr hf (hB _ (.inr (.inl rfl))) (hB _ (.inr (.inr (.inl rfl)))), by rw [hpr]; exact h.map.fr hf (hB _ (.inr (.inr (.inr rfl)))), h.n1, h.pos, ?_, ?_, ?_, h.ids, h.tn, h.nx⟩
 ·intro x hx1
  obtain ⟨y, hy, rfl⟩ := List.mem_map.1 hx1
  by_cases e : y.1 = p
  ·rw [if_pos e]; exact hd
  ·rw [if_neg e]; exact (h.part y hy).fr hf (hne y hy e)
 ·intro x hx1 i hi hb
  obtain ⟨y, hy, rfl⟩ := List.mem_map.1 hx1
  by_cases e : y.1 = p
  ·rw [if_pos e] at hi
   rcases hT i hi with h1 | h1
   ·exact hB i hb h1
   ·have := lowB i hb; omega
  ·rw [if_neg e] at hi; exact h.off y hy i hi hb
 ·unfold setP
  refine List.Pairwise.map _ ?_ (List.Pairwise.imp_of_mem ?_ (h.dis.and (List.pairwise_map.1 hkeys))) (R := fun x y => (∀ i, x.2.T i → ¬ y.2.T i) ∧ x.1 ≠ y.1 ∧ x ∈ m.L ∧ y ∈ m.L)
  ·rintro x y ⟨h1, h2, hx1, hy1⟩ i hi hyi
   by_cases e1 : x.1 = p
   ·by_cases e2 : y.1 = p
    ·exact h2 (e1.trans e2.symm)
    ·rw [if_pos e1] at hi; rw [if_neg e2] at hyi
     rcases hT i hi with h3 | h3
     ·exact hne y hy1 e2 i hyi h3
     ·have := lowT y hy1 i hyi; omega
   ·rw [if_neg e1] at hi
    by_cases e2 : y.1 = p
    ·rw [if_pos e2] at hyi
     rcases hT i hyi with h3 | h3
     ·exact hne x hx1 e1 i hi h3
     ·have := lowT x hx1 i hi; omega
    ·rw [if_neg e2] at hyi; exact h1 i hi hyi
  ·intro x y hx1 hy1 ⟨h1, h2⟩
   exact ⟨h1, h2, hx1, hy1⟩
end
end Go.Proofs.YtfdhofabgdkkkaaGreatDoor
/- A machine: Do, of a request that produces. -/
namespace Go.Proofs.YtfdhofabgdkkkaaGreatDoor
open Go.RowKit Go.Fm Go.BigFrame Go.Shelf Go.Maps
set_option linter.unusedVariables false
set_option linter.unusedSimpArgs false
set_option maxRecDepth 100000
section
variable {w w' : World} {S : Nat → Prop}
theorem zeroFn (w : World) : (zeroValue 89).run Tryz.prog w = .ok .nilFunc w := by kernel_rfl
/-- What one that produces is told by Do; enc: may the request be? -/
def DoProd (w : World) (m : MachD) (p : Place) (d : PartD) (b0 : Bat) (enc : Bool) (e : Ending) (w' : World) : Prop :=
 ∃ ee cc, e = .returned (tellV ee cc) ∧ (
  ((enc = false ∨ ¬ (BatOK (atB d b0) ∧ (batS (atB d b0)).size ≤ 50000)) ∧ ee = 1 ∧ cc = 0 ∧ MachA w' m ∧ Fr (fun _ => False) w w') ∨
  (enc = true ∧ (BatOK (atB d b0) ∧ (batS (atB d b0)).size ≤ 50000) ∧ ∃ x ag c, chkP d.F (atB d b0) = (x, ag, c) ∧ (
   ((c ≠ 0 ∨ ag = true) ∧ ee = c ∧ (c = 0 → cc = x) ∧ MachA w' m ∧ Fr (fun _ => False) w w') ∨
   (c = 0 ∧ ag = false ∧ ee = 0 ∧ cc = d.en ∧ ∃ d' : PartD, MachA w' { m with L := setP m.L p d' } ∧ d'.st = d.st ∧ d'.en = d.en + b0.span ∧ d'.bats = d.bats ++ [atB d b0] ∧ d'.F = noteP d.F (atB d b0) ∧ d'.n = d.n + 1 ∧ (∀ i, d'.T i → d.T i ∨ w.heap.size ≤ i) ∧ Fr d.T w w'))))
theorem prod_tell {d : PartD} {b0 : Bat} {e : Ending} (h : ProdPost w d b0 e w') : ∃ ee cc, e = .returned (tellV ee cc) := by
 rcases h with ⟨-, rfl, -⟩ | ⟨-, x, ag, c, -, ⟨-, rfl, -⟩ | ⟨-, -, rfl, -⟩⟩
 ·exact ⟨_, _, rfl⟩
 ·by_cases hc : c = 0
  ·rw [if_pos hc]; exact ⟨_, _, rfl⟩
  ·rw [if_neg hc]; exact ⟨_, _, rfl⟩
 ·exact ⟨_, _, rfl⟩
theorem tell_inj {a b c d : Int} (h : Ending.returned (tellV a b) = .returned (tellV c d)) : a = c ∧ b = d := by
 unfold tellV at h
 simp at h
 exact h
/-- From the partition's answer to the machine's, the reply laid into its place. -/
theorem prod_do {w0 w1 w2 w3 : World} {m : MachD} {p : Place} {d : PartD} {b0 : Bat} {ee cc : Int} (hm : (p, d) ∈ m.L) (hM : MachA w1 m) (hf : Fr (fun _ => False) w0 w1) (h : ProdPost w1 d b0 (.returned (tellV ee cc)) w2)
  (low : m.Low w0.heap.size) (S : Nat → Prop) (hS : ∀ i, S i → w0.heap.size ≤ i ∧ i < w1.heap.size) (hg : Fr S w2 w3) : DoProd w0 m p d b0 true (.returned (tellV ee cc)) w3 := by
 refine ⟨ee, cc, rfl, ?_⟩
 have quiet : Fr (fun _ => False) w1 w2 → MachA w3 m ∧ Fr (fun _ => False) w0 w3 := fun h1 =>
  ⟨(hM.old h1).fr hg (fun i hi hs => by have := hS i hs; have := low.1 i hi; omega) fun x hx i hi hs => by have := hS i hs; have := low.2 x hx i hi; omega, (hf.tr h1).trans hg fun i hs => .inr (hS i hs).1⟩
 rcases h with ⟨h1, h2, h3⟩ | ⟨h1, x, ag, c, hc, ⟨h2, h3, h4⟩ | ⟨rfl, rfl, h3, d', p1, p2, p3, p4, p5, p6, p7, p8, p9⟩⟩
 ·obtain ⟨e1, e2⟩ := tell_inj h2
  exact .inl ⟨.inr h1, e1, e2, quiet h3⟩
 ·refine .inr ⟨rfl, h1, x, ag, c, hc, .inl ⟨h2, ?_, ?_, quiet h4⟩⟩
  ·by_cases h0 : c = 0
   ·rw [if_pos h0] at h3; obtain ⟨e1, e2⟩ := tell_inj h3; rw [e1, h0]
   ·rw [if_neg h0] at h3; exact (tell_inj h3).1
  ·intro h0
   rw [if_pos h0] at h3; exact (tell_inj h3).2
 ·obtain ⟨e1, e2⟩ := tell_inj h3
  refine .inr ⟨rfl, h1, x, false, 0, hc, .inr ⟨rfl, rfl, e1, e2, d', ?_, p3, p4, p5, p6, p7, fun i hi => (p8 i hi).imp id fun h => Nat.le_trans hf.size h, ?_⟩⟩
  ·have M2 := hM.set hm p1 p2 p8 p9
   refine M2.fr hg (fun i hi hs => by have := hS i hs; have := low.1 i hi; omega) fun y hy i hi hs => ?_
   obtain ⟨z, hz, rfl⟩ := List.mem_map.1 hy
   by_cases e : z.1 = p
   ·rw [if_pos e] at hi
    rcases p8 i hi with h5 | h5
    ·have := low.2 _ hm i h5; have := hS i hs; omega
    ·have := hS i hs; omega
   ·rw [if_neg e] at hi
    have := low.2 z hz i hi; have := hS i hs; omega
  ·exact ((hf.mono (S' := d.T) fun _ h => h.elim).trans p9 fun i h => .inl h).trans hg fun i hs => .inr (hS i hs).1
end
section
variable {K : Type} [DecidableEq K] {q : KK K}
theorem MapG.upd (ql : KKLaw q) {w : World} {b : Nat} {L : List (K × Value)} (hM : MapG q w b L) (mt et : TypeId) (ht : Tryz.prog.underlying mt = some (.map q.kt et)) (hn : L.length < 1000000) (k : K) (hk : q.ok k) (u : Value) :
  ∃ w', (Instr.mapUpdate mt (.map (some b)) (q.kv k) u).run Tryz.prog w = .ok () w' ∧ MapG q w' b (putG L k u) ∧ w.grownBy w' (some b) := by
 obtain ⟨h0, D, h1, h2, h3⟩ := hM
 obtain ⟨w', hrun, r1, r2⟩ := h1.update ql.keyed ht (by rw [h2]; unfold maxLen; omega) (ql.key k hk) (show anyR u = some (.held u, []) from rfl)
 exact ⟨w', hrun, MapG.put ql h0 h1 h2 h3 hk r1, r2⟩
/-- The four ways that a partition is asked, laid into a map. -/
theorem four (w : World) (xb : Nat) : ∃ w6 w7 w8 w9,
  (Instr.mapUpdate 92 (.map (some w.heap.size)) (.int .i64 4) (.func (.func 37) #[.pointer (some ⟨xb, 0, none⟩)] #[])).run Tryz.prog (w.alloc (.map #[] 0)) = .ok () w6 ∧
  (Instr.mapUpdate 92 (.map (some w.heap.size)) (.int .i64 5) (.func (.func 38) #[.pointer (some ⟨xb, 0, none⟩)] #[])).run Tryz.prog w6 = .ok () w7 ∧
  (Instr.mapUpdate 92 (.map (some w.heap.size)) (.int .i64 6) (.func (.func 39) #[.pointer (some ⟨xb, 0, none⟩)] #[])).run Tryz.prog w7 = .ok () w8 ∧
  (Instr.mapUpdate 92 (.map (some w.heap.size)) (.int .i64 7) (.func (.func 40) #[.pointer (some ⟨xb, 0, none⟩)] #[])).run Tryz.prog w8 = .ok () w9 ∧
  (Instr.lookup 92 (.map (some w.heap.size)) (.int .i64 4) true).run Tryz.prog w9 = .ok (.tuple #[.func (.func 37) #[.pointer (some ⟨xb, 0, none⟩)] #[], .bool true]) w9 ∧
  (Instr.lookup 92 (.map (some w.heap.size)) (.int .i64 5) true).run Tryz.prog w9 = .ok (.tuple #[.func (.func 38) #[.pointer (some ⟨xb, 0, none⟩)] #[], .bool true]) w9 ∧
  Fr (fun _ => False) w w6 ∧ Fr (fun _ => False) w w7 ∧ Fr (fun _ => False) w w8 ∧ Fr (fun _ => False) w w9 := by
 have h5 := MapG.made intK w
 obtain ⟨w6, r6, h6, g6⟩ := h5.upd intLaw 92 89 Tryz.underlying92 (by simp) 4 rfl (.func (.func 37) #[.pointer (some ⟨xb, 0, none⟩)] #[])
 obtain ⟨w7, r7, h7, g7⟩ := h6.upd intLaw 92 89 Tryz.underlying92 (by simp [putG]) 5 rfl (.func (.func 38) #[.pointer (some ⟨xb, 0, none⟩)] #[])
 obtain ⟨w8, r8, h8, g8⟩ := h7.upd intLaw 92 89 Tryz.underlying92 (by simp [putG]) 6 rfl (.func (.func 39) #[.pointer (some ⟨xb, 0, none⟩)] #[])
 obtain ⟨w9, r9, h9, g9⟩ := h8.upd intLaw 92 89 Tryz.underlying92 (by simp [putG]) 7 rfl (.func (.func 40) #[.pointer (some ⟨xb, 0, none⟩)] #[])
 have f5 := (Fr.same w).alloc (.map #[] 0)
 have f6 := f5.grown g6 fun k hk => .inr (by cases hk; exact Nat.le_refl _)
 have f7 := f6.grown g7 fun k hk => .inr (by cases hk; exact Nat.le_refl _)
 have f8 := f7.grown g8 fun k hk => .inr (by cases hk; exact Nat.le_refl _)
 have f9 := f8.grown g9 fun k hk => .inr (by cases hk; exact Nat.le_refl _)
 have l4 := h9.look intLaw Tryz.underlying92 (zeroFn w9) (k := 4) rfl
 have l5 := h9.look intLaw Tryz.underlying92 (zeroFn w9) (k := 5) rfl
 simp only [getG_put] at l4 l5
 exact ⟨w6, w7, w8, w9, r6, r7, r8, r9, l4, l5, f6, f7, f8, f9⟩
end
end Go.Proofs.YtfdhofabgdkkkaaGreatDoor
