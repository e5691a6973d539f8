/- A machine: create. -/
import Derived.Test.YtfdhofabgdkkkaaGreatDoorQ29
namespace Go.Proofs.YtfdhofabgdkkkaaGreatDoor
open Go.RowKit Go.Fm Go.BigFrame Go.Shelf Go.Maps
set_option linter.unusedVariables false
set_option linter.unusedSimpArgs false
set_option maxRecDepth 100000
section
variable {w w' : World} {S : Nat → Prop}
def addP (L : List (Place × PartD)) (k : Place) (d : PartD) : List (Place × PartD) := (k, d) :: L.filter fun x => x.1 ≠ k
theorem prows_add (L : List (Place × PartD)) (k : Place) (d : PartD) : prows (addP L k d) = putG (prows L) k (.pointer (some ⟨d.xb, 0, none⟩)) := by
 unfold prows putG addP
 rw [List.map_cons, List.filter_map]
 rfl
theorem findP_add (L : List (Place × PartD)) (k : Place) (d : PartD) (p : Place) : findP (addP L k d) p = if p = k then some d else findP L p := by
 unfold findP addP
 by_cases e : p = k
 ·subst e; simp
 ·rw [List.find?_cons_of_neg (by simp; exact fun h => e h.symm), if_neg e]
  congr 1
  induction L with
  | nil => rfl
  | cons y r ih =>
   by_cases h1 : y.1 = k
   ·rw [List.filter_cons_of_neg (by simpa using h1), ih, List.find?_cons_of_neg (by simp [h1]; exact fun h => e h.symm)]
   ·rw [List.filter_cons_of_pos (by simpa using h1)]
    by_cases h2 : y.1 = p
    ·simp [h2]
    ·rw [List.find?_cons_of_neg (by simpa using h2), List.find?_cons_of_neg (by simpa using h2), ih]
/-- All that is the machine's lies below. -/
def MachD.Low (m : MachD) (s : Nat) : Prop := (∀ i, m.B i → i < s) ∧ ∀ x ∈ m.L, ∀ i, x.2.T i → i < s
theorem MachA.low {m : MachD} (h : MachA w m) : m.Low w.heap.size :=
 ⟨fun i hi => by
  rcases hi with e | e | e | e
  ·subst e; exact lt_of_heap h.b
  ·subst e; exact lt_of_heap h.top.b
  ·subst e; exact h.top.m.lt
  ·subst e; exact h.map.lt, fun x hx i hi => ((h.part x hx).lt i hi).2⟩
theorem MachA.add {m : MachD} (h : MachA w m) {k : Place} {d : PartD} (hd : PartA w' d) (s : Nat) (h1 : ∀ i, d.T i → s ≤ i) (h2 : m.Low s) (hm : MapG placeK w' m.pm (putG (prows m.L) k (.pointer (some ⟨d.xb, 0, none⟩)))) (hf : Fr (fun i => i = m.pm) w w') :
  MachA w' { m with L := addP m.L k d } := by
 have hB : ∀ i, m.B i → i ≠ m.pm ∨ i = m.pm := fun i _ => (Decidable.em (i = m.pm)).symm
 refine ⟨(hf.block _ (lt_of_heap h.b) h.n1.2.2.1).trans h.b, h.top.fr hf h.n1.2.2.2.1 h.n1.2.2.2.2, by rw [prows_add]; exact hm, h.n1, h.pos, ?_, ?_, ?_, h.ids, h.tn, h.nx⟩
 ·intro x hx
  rcases List.mem_cons.1 hx with rfl | hx
  ·exact hd
  ·have hx := (List.mem_filter.1 hx).1
   exact (h.part x hx).fr hf fun i hi e => h.off x hx i hi (.inr (.inr (.inr e)))
 ·intro x hx i hi hb
  rcases List.mem_cons.1 hx with rfl | hx
  ·have := h1 i hi; have := h2.1 i hb; omega
  ·exact h.off x (List.mem_filter.1 hx).1 i hi hb
 ·refine List.Pairwise.cons ?_ (h.dis.sublist List.filter_sublist)
  intro y hy i hi hyi
  have := h1 i hi; have := h2.2 y (List.mem_filter.1 hy).1 i hyi; omega
/-- A partition that is new. -/
structure NewP (d : PartD) : Prop where
 st : d.st = 0
 en : d.en = 0
 bats : d.bats = []
 F : d.F = fun _ => none
 n : d.n = 0
def CrePost (w : World) (m : MachD) (name : ByteArray) (count : Int) (e : Ending) (w' : World) : Prop :=
 e = .returned (tellV 0 m.tn) ∧ ∃ m' : MachD, MachA w' m' ∧ m'.mb = m.mb ∧ m'.TL = putG m.TL name (oneV m.tn count) ∧ m'.tn = m.tn + 1 ∧ m'.next = m.next ∧
  (∀ i : Int, 0 ≤ i → i < count → ∃ d, findP m'.L ⟨m.tn, i⟩ = some d ∧ NewP d) ∧ (∀ p : Place, ¬ (p.id = m.tn ∧ 0 ≤ p.ix ∧ p.ix < count) → findP m'.L p = findP m.L p) ∧ (∀ i, m'.B i → m.B i) ∧ (∀ x ∈ m'.L, ∀ i, x.2.T i → (∃ y ∈ m.L, y.2.T i) ∨ w.heap.size ≤ i) ∧ m'.L.length ≤ m.L.length + count.toNat ∧ Fr m.B w w'
theorem MachA.topped {m : MachD} (h : MachA w m) {name : ByteArray} {count : Int} (ht : TopA w' m.tb m.tmb (m.tn + 1) (putG m.TL name (oneV m.tn count))) (hf : Fr (fun i => i = m.tb ∨ i = m.tmb) w w') (hn : m.tn < 1073741824) :
  MachA w' { m with TL := putG m.TL name (oneV m.tn count), tn := m.tn + 1 } := by
 obtain ⟨n1, n2, n3, n4, n5⟩ := h.n1
 refine ⟨(hf.block _ (lt_of_heap h.b) (by omega)).trans h.b, ht, h.map.fr hf (by omega), h.n1, h.pos, fun x hx => (h.part x hx).fr hf fun i hi e => ?_, h.off, h.dis, ?_, ?_, h.nx⟩
 ·rcases e with e | e
  ·exact h.off x hx i hi (.inr (.inl e))
  ·exact h.off x hx i hi (.inr (.inr (.inl e)))
 ·intro r hr
  rcases List.mem_cons.1 hr with rfl | hr
  ·exact ⟨_, _, rfl, h.tn.1, by dsimp only; omega⟩
  ·obtain ⟨i, p, h1, h2, h3⟩ := h.ids r (List.mem_filter.1 hr).1
   exact ⟨i, p, h1, h2, by dsimp only; omega⟩
 ·have := h.tn; dsimp only; omega
set_option maxHeartbeats 64000000 in
theorem create_walk {m : MachD} (h : MachA w m) (q : Req) (rv kv tv : Value) (hk1 : 1 ≤ q.name.size) (hk2 : q.name.size ≤ 100) (hc1 : 1 ≤ q.count) (hc2 : q.count ≤ 16) (hg : getG m.TL q.name = none) (hL : m.TL.length < 20) (hn : m.tn < 1073741824) (hPL : m.L.length < 1000) :
  Calls Tryz.prog 34 #[.pointer (some ⟨m.mb, 0, none⟩), .agg (reqC q rv kv tv)] w (CrePost w m q.name q.count) := by
 have f2 := ((Fr.same w).alloc (.cells #[.int .i64 q.kind, .string q.name, .int .i64 q.index, .int .i64 q.count, .int .i64 q.from', .bool q.flag, .int .i64 q.bat.base, .int .i64 q.bat.span, .int .i64 q.bat.prod, .int .i64 q.bat.epoch, .int .i64 q.bat.seq, rv, .int .i64 q.fop, .string q.fnm, .string q.fvl, kv, .string q.group, .int .i64 q.member, .int .i64 q.gen, tv] 41)).alloc (.cells #[.int .i64 0, .int .i64 0, .int .i64 0, .int .i64 0, .int .i64 0, .int .i64 0, .int .i64 0, .slice none 0 0, .slice none 0 0, .slice none 0 0] 31)
 have s1 : (w.alloc (.cells #[.int .i64 q.kind, .string q.name, .int .i64 q.index, .int .i64 q.count, .int .i64 q.from', .bool q.flag, .int .i64 q.bat.base, .int .i64 q.bat.span, .int .i64 q.bat.prod, .int .i64 q.bat.epoch, .int .i64 q.bat.seq, rv, .int .i64 q.fop, .string q.fnm, .string q.fvl, kv, .string q.group, .int .i64 q.member, .int .i64 q.gen, tv] 41)).heap.size = w.heap.size + 1 := by simp
 have x1 := heap_alloc_self (w.alloc (.cells #[.int .i64 q.kind, .string q.name, .int .i64 q.index, .int .i64 q.count, .int .i64 q.from', .bool q.flag, .int .i64 q.bat.base, .int .i64 q.bat.span, .int .i64 q.bat.prod, .int .i64 q.bat.epoch, .int .i64 q.bat.seq, rv, .int .i64 q.fop, .string q.fnm, .string q.fvl, kv, .string q.group, .int .i64 q.member, .int .i64 q.gen, tv] 41)) (.cells #[.int .i64 0, .int .i64 0, .int .i64 0, .int .i64 0, .int .i64 0, .int .i64 0, .int .i64 0, .slice none 0 0, .slice none 0 0, .slice none 0 0] 31)
 rw [s1] at x1
 have X1 := Lib.hid x1
 have X0 := Lib.hid ((heap_alloc_lt (.cells #[.int .i64 0, .int .i64 0, .int .i64 0, .int .i64 0, .int .i64 0, .int .i64 0, .int .i64 0, .slice none 0 0, .slice none 0 0, .slice none 0 0] 31) (lt_of_heap (heap_alloc_self w (.cells #[.int .i64 q.kind, .string q.name, .int .i64 q.index, .int .i64 q.count, .int .i64 q.from', .bool q.flag, .int .i64 q.bat.base, .int .i64 q.bat.span, .int .i64 q.bat.prod, .int .i64 q.bat.epoch, .int .i64 q.bat.seq, rv, .int .i64 q.fop, .string q.fnm, .string q.fvl, kv, .string q.group, .int .i64 q.member, .int .i64 q.gen, tv] 41)))).trans (heap_alloc_self w (.cells #[.int .i64 q.kind, .string q.name, .int .i64 q.index, .int .i64 q.count, .int .i64 q.from', .bool q.flag, .int .i64 q.bat.base, .int .i64 q.bat.span, .int .i64 q.bat.prod, .int .i64 q.bat.epoch, .int .i64 q.bat.seq, rv, .int .i64 q.fop, .string q.fnm, .string q.fvl, kv, .string q.group, .int .i64 q.member, .int .i64 q.gen, tv] 41)))
 have M2 := Lib.hid (h.old f2)
 have F2 := Lib.hid f2
 have M0 := Lib.hid h
 have LOW := Lib.hid h.low
 have HG := Lib.hid hg
 clear f2 s1 x1 h hg
 unfold reqC
 go_enter Tryz.func34, Tryz.ntmps34
 go_wp2_with fail
 generalize ((w.alloc (.cells #[.int .i64 q.kind, .string q.name, .int .i64 q.index, .int .i64 q.count, .int .i64 q.from', .bool q.flag, .int .i64 q.bat.base, .int .i64 q.bat.span, .int .i64 q.bat.prod, .int .i64 q.bat.epoch, .int .i64 q.bat.seq, rv, .int .i64 q.fop, .string q.fnm, .string q.fvl, kv, .string q.group, .int .i64 q.member, .int .i64 q.gen, tv] 41)).alloc (.cells #[.int .i64 0, .int .i64 0, .int .i64 0, .int .i64 0, .int .i64 0, .int .i64 0, .int .i64 0, .slice none 0 0, .slice none 0 0, .slice none 0 0] 31)) = w2 at *
 have LT := Lib.hid (show ∀ i, m.B i → i < w.heap.size from LOW.out.1)
 have lt1 := LT.out _ (.inr (.inl rfl))
 have lt2 := LT.out _ (.inr (.inr (.inl rfl)))
 obtain ⟨n1, n2, n3, n4, n5⟩ := M0.out.n1
 have z0 : ∀ y : Lcl.InS (fun w' => Fr (fun i => i = m.tb ∨ i = m.tmb) w2 w'), y.w.cell? ⟨m.mb, 0, none⟩ = some (.pointer (some ⟨m.tb, 0, none⟩)) := fun y => y.h.cell ((cell_of M2.out.b 0).trans rfl) (by show ¬ (m.mb = m.tb ∨ m.mb = m.tmb); omega)
 have z1 : ∀ y : Lcl.InS (fun w' => Fr (fun i => i = m.tb ∨ i = m.tmb) w2 w'), y.w.cell? ⟨w.heap.size, 1, none⟩ = some (.string q.name) := fun y => y.h.cell ((cell_of X0.out 1).trans rfl) (by show ¬ (w.heap.size = m.tb ∨ w.heap.size = m.tmb); omega)
 have z2 : ∀ y : Lcl.InS (fun w' => Fr (fun i => i = m.tb ∨ i = m.tmb) w2 w'), y.w.cell? ⟨w.heap.size, 3, none⟩ = some (.int .i64 q.count) := fun y => y.h.cell ((cell_of X0.out 3).trans rfl) (by show ¬ (w.heap.size = m.tb ∨ w.heap.size = m.tmb); omega)
 refine Lcl.wp_region_calm (by kernel_rfl) [(true, [0, 1, 2, 4, 6]), (false, [3, 5, 7])] #[0, 1, 3, 7, 0, 16, 0, 64, 255, 511, 1023, 1023, 2047, 8191] [0, 1, 2, 3, 4, 5, 6, 7] 6 #[true, true, true, true, true, true, true, true, false, false, false, false, false, false] (by kernel_rfl) (by kernel_rfl) (by kernel_rfl) (fun w' => Fr (fun i => i = m.tb ∨ i = m.tmb) w2 w') (Fr.refl _ w2).drew (fun d c a v w h => by cases d <;> exact h) ?_
 simp only [Lcl.opsOf, List.map_cons, List.map_nil, List.getElem?_toArray, List.getElem?_cons_succ, List.getElem?_cons_zero, Option.getD_some]
 refine Lcl.wpCalm_t ?_
 repeat (go_big_quiet_step (rfl))
 refine wpQuiet_nil ?_
 refine Lcl.wpCalm_f ?_
 repeat (go_big_quiet_step (rfl))
 refine wpQuiet_nil ?_
 refine Lcl.wpCalm_nil ?_
 clear z0 z1 z2
 have D2 := Lib.hid (Fr.same w2).drew
 have M3 := Lib.hid (M2.out.old D2.out)
 have F3 := Lib.hid (F2.out.tr D2.out)
 have X1 := Lib.hid ((D2.out.block _ (lt_of_heap X1.out) fun h => h).trans X1.out)
 have X0 := Lib.hid ((D2.out.block _ (lt_of_heap X0.out) fun h => h).trans X0.out)
 clear M2 F2
 generalize w2.drew = w3 at *
 have CW := Lib.hid (tcreate_walk M3.out.top q.name q.count hk1 hk2 hc1 hc2 HG.out hL M0.out.tn.1 hn)
 refine Lcl.wpG_one 8 rfl (by kernel_rfl) ?_
 go_wp2_with fail
 refine CW.out.mono ?_
 rintro e w4 ⟨rfl, ht4, f4⟩
 have M4 := Lib.hid (M3.out.topped ht4 f4 hn)
 have X1 := Lib.hid ((f4.block _ (lt_of_heap X1.out) (by omega)).trans X1.out)
 have X0 := Lib.hid ((f4.block _ (lt_of_heap X0.out) (by omega)).trans X0.out)
 have F4 := Lib.hid ((F3.out.mono (S' := m.B) fun _ h => h.elim).trans f4 fun i e => .inl (by rcases e with e | e <;> first | exact .inr (.inl e) | exact .inr (.inr (.inl e))))
 have D4 := Lib.hid ((D2.out.mono (S' := fun i => i = m.tb ∨ i = m.tmb) fun _ h => h.elim).trans f4 fun i e => .inl e)
 have LX1 := Lib.hid (lt_of_heap X1.out)
 clear ht4 f4 CW M3 F3 D2
 go_wp2_with fail
 refine ⟨fun h => absurd h (by decide), ?_⟩
 refine Lcl.wpG_calm (m := #[0, 1, 3, 7, 0, 16, 0, 64, 255, 511, 1023, 1023, 2047, 8191]) (needs := [0, 1, 2, 3, 4, 5, 6, 7]) (fuel := 0) (by kernel_rfl) ?hqA (D4.out) [(true, [9, 10, 11, 12, 13])] _ _ ?k1A ?k2A ?k3A ?k4A
 case hqA => exact fun d c a v w h => by cases d <;> exact h
 case k1A => kernel_rfl
 case k2A => rfl
 case k3A => kernel_rfl
 simp only [Lcl.opsOf, List.map_cons, List.map_nil, List.getElem?_toArray, List.getElem?_cons_succ, List.getElem?_cons_zero, Option.getD_some]
 refine Lcl.wpCalm_t ?_
 repeat (go_big_quiet_step (rfl))
 refine wpQuiet_nil ?_
 refine Lcl.wpCalm_nil ?_
 refine Lcl.wpG_run [] _ _ _ (by kernel_rfl) ?_
 simp only [List.map_cons, List.map_nil, List.getElem?_toArray, List.getElem?_cons_succ, List.getElem?_cons_zero, Option.getD_some]
 have d0 := fun j => cell_of X0.out j
 have hcn : ((q.count.toNat : Nat) : Int) = q.count := by omega
 have HCN := Lib.hid hcn
 clear D4 hcn
 go_wp2_with fail
 clear d0
 go_loopw [24] (fun i wr => ∃ (k : Nat) (Lk : List (Place × PartD)), i = .int .i64 k ∧ (k : Int) ≤ q.count ∧ MachA wr { m with TL := putG m.TL q.name (oneV m.tn q.count), tn := m.tn + 1, L := Lk } ∧
  (∀ i : Int, 0 ≤ i → i < k → ∃ d, findP Lk ⟨m.tn, i⟩ = some d ∧ NewP d) ∧ (∀ p : Place, ¬ (p.id = m.tn ∧ 0 ≤ p.ix ∧ p.ix < (k : Int)) → findP Lk p = findP m.L p) ∧ Lk.length ≤ m.L.length + k ∧ (∀ x ∈ Lk, ∀ i, x.2.T i → (∃ y ∈ m.L, y.2.T i) ∨ w4.heap.size ≤ i) ∧ Fr m.B w4 wr) (fun i _ => q.count.toNat - (intOf i).toNat)
 case atStart => exact ⟨0, m.L, rfl, by omega, M4.out, fun i h1 h2 => by omega, fun p h => rfl, Nat.le_refl _, fun x hx i hi => .inl ⟨x, hx, hi⟩, Fr.refl _ _⟩
 case round =>
  obtain ⟨k, Lk, rfl, hk, hM, hl1, hl2, hlen, hsep, hf⟩ := hrel
  have SEP := Lib.hid hsep
  have SZF := Lib.hid hf.size
  have M5 := Lib.hid hM
  have L1 := Lib.hid hl1
  have L2 := Lib.hid hl2
  have F := Lib.hid hf
  have X1w := Lib.hid ((hf.block _ (lt_of_heap X1.out) (fun e => by have := LT.out _ e; omega)).trans X1.out)
  clear hM hl1 hl2 hf hsep
  by_cases hlt : (k : Int) < q.count
  ·go_wp2_with fail
   have z0 : ∀ y : Lcl.InS (fun w' => Fr (fun _ => False) wr w'), y.w.cell? ⟨m.mb, 3, none⟩ = some (.map (some m.pm)) := fun y => y.h.cel ((cell_of M5.out.b 3).trans rfl)
   refine Lcl.wp_region_calm (by kernel_rfl) [(true, [0, 1, 2, 4, 5, 6]), (false, [3])] #[0, 1, 3, 7, 0, 0, 48, 0, 128, 384, 1023] [0, 1, 2, 3, 4, 5, 6, 7, 8, 9] 4 #[true, true, true, true, true, true, true, false, false, false, false] (by kernel_rfl) (by kernel_rfl) (by kernel_rfl) (fun w' => Fr (fun _ => False) wr w') (Fr.same wr).drew (fun d c a v w h => by cases d <;> exact h) ?_
   simp only [Lcl.opsOf, List.map_cons, List.map_nil, List.getElem?_toArray, List.getElem?_cons_succ, List.getElem?_cons_zero, Option.getD_some]
   refine Lcl.wpCalm_t ?_
   repeat (go_big_quiet_step (rfl))
   refine wpQuiet_nil ?_
   refine Lcl.wpCalm_f ?_
   repeat (go_big_quiet_step (rfl))
   refine wpQuiet_nil ?_
   refine Lcl.wpCalm_nil ?_
   clear z0
   have D5 := Lib.hid (Fr.same wr).drew
   have M6 := Lib.hid (M5.out.old D5.out)
   have X1 := Lib.hid ((D5.out.block _ (lt_of_heap X1w.out) fun h => h).trans X1w.out)
   have F6 := Lib.hid (F.out.trans D5.out fun _ h => h.elim)
   clear M5 X1w
   generalize wr.drew = w5 at *
   refine Lcl.wpG_one 7 rfl (by kernel_rfl) ?_
   go_wp2_with fail
   refine (inew_walk w5).mono ?_
   rintro e w6 ⟨pb, mp, rfl, hpa, hpb, hmp, f6⟩
   have D6 := Lib.hid (D5.out.tr f6)
   have M7 := Lib.hid (M6.out.old f6)
   have PA := Lib.hid hpa
   have F7 := Lib.hid (F6.out.trans f6 fun _ h => h.elim)
   have LO := Lib.hid M6.out.low
   have WS := Lib.hid F6.out.size
   have GE := Lib.hid (show w5.heap.size ≤ pb ∧ w5.heap.size ≤ mp ∧ 0 < w5.heap.size ∧ w5.heap.size ≤ w6.heap.size ∧ pb < w6.heap.size ∧ mp < w6.heap.size from ⟨hpb, hmp, by have := LO.out.1 _ (.inl rfl); omega, f6.size, lt_of_heap hpa.b, hpa.m.lt⟩)
   clear hpa hpb hmp f6 M6 F6
   go_wp2_with fail
   refine ⟨fun _ _ => D6.out, ?_⟩
   refine Lcl.wpG_one 8 rfl (by kernel_rfl) ?_
   go_wp2_with fail
   refine ⟨fun _ _ => D6.out, ?_⟩
   refine Lcl.wpG_one 9 rfl (by kernel_rfl) ?_
   have fa := (Fr.same w6).alloc (.cells #[.int .i64 0, .int .i64 0, .slice none 0 0, .pointer (some ⟨pb, 0, none⟩)] 102)
   have xa := heap_alloc_self w6 (.cells #[.int .i64 0, .int .i64 0, .slice none 0 0, .pointer (some ⟨pb, 0, none⟩)] 102)
   have sz := (show (w6.alloc (.cells #[.int .i64 0, .int .i64 0, .slice none 0 0, .pointer (some ⟨pb, 0, none⟩)] 102)).heap.size = w6.heap.size + 1 by simp)
   have D7 := Lib.hid (D6.out.tr fa)
   have M8 := Lib.hid (M7.out.old fa)
   have F8 := Lib.hid (F7.out.trans fa fun _ h => h.elim)
   have PW := Lib.hid (ProdW.new (PA.out.old fa))
   have XA := Lib.hid xa
   have SZ := Lib.hid sz
   clear fa xa sz M7 F7 D6
   go_wp2_with fail
   refine ⟨fun _ _ => D7.out, ?_⟩
   refine Lcl.wpG_run [10] _ _ _ (by kernel_rfl) ?_
   simp only [List.map_cons, List.map_nil, List.getElem?_toArray, List.getElem?_cons_succ, List.getElem?_cons_zero, Option.getD_some]
   generalize (w6.alloc (.cells #[.int .i64 0, .int .i64 0, .slice none 0 0, .pointer (some ⟨pb, 0, none⟩)] 102)) = w7 at *
   refine wpList_putG placeLaw _ rfl 81 87 Tryz.underlying81 (.tmp 30) (.tmp 33) (.tmp 36) rfl m.pm (prows Lk) rfl M8.out.map (by unfold prows; rw [List.length_map]; omega) ⟨m.tn, k⟩ rfl ⟨by have := M0.out.tn; simp [Lit.wf, IntKind.min, IntKind.max, IntKind.signed, IntKind.bits]; omega, by simp [Lit.wf, IntKind.min, IntKind.max, IntKind.signed, IntKind.bits]; omega⟩ (.pointer (some ⟨w6.heap.size, 0, none⟩)) rfl ?_
   intro w8 hm8 hg8
   have hf8 : Fr (fun i => i = m.pm) w7 w8 := Fr.grown (Fr.refl _ _) hg8 fun x e => .inl (Option.some.inj e).symm
   have hpm : m.pm < w5.heap.size := LO.out.1 _ (.inr (.inr (.inr rfl)))
   have PD : PartA w8 ⟨w6.heap.size, 0, 0, [], .slice none 0 0, pb, fun _ => none, 0, fun _ => False, fun i => i = pb ∨ i = mp⟩ := by
    obtain ⟨g1, g2, g3, g4, g5, g6⟩ := GE.out
    have hs8 := hf8.size
    have hs7 := SZ.out
    refine ⟨(hf8.block _ (lt_of_heap XA.out) (by omega)).trans XA.out, OwnBats.nil _ _ _, PW.out.fr hf8 ?_, ?_, ?_, ?_, ?_, ?_, ?_⟩
    ·rintro i (h | h) e <;> omega
    ·rintro i (h | h | h | h | h)
     ·have h : i = w6.heap.size := h; dsimp only at *; omega
     ·cases h
     ·exact h.elim
     ·have h : i = pb := h; omega
     ·have h : i = mp := h; omega
    ·intro h; cases h
    ·exact fun h => h
    ·rintro (h | h) <;> (dsimp only at h; omega)
    ·intro k hk; cases hk
    ·intro k hk; exact hk.elim
   have MA := Lib.hid (M8.out.add PD w5.heap.size (by
    obtain ⟨g1, g2, g3, g4, g5, g6⟩ := GE.out
    rintro i (h | h | h | h | h)
    ·have h : i = w6.heap.size := h; omega
    ·cases h
    ·exact h.elim
    ·have h : i = pb := h; omega
    ·have h : i = mp := h; omega) LO.out hm8 hf8)
   have SEP2 := Lib.hid (show ∀ x ∈ addP Lk ⟨m.tn, k⟩ ⟨w6.heap.size, 0, 0, [], .slice none 0 0, pb, fun _ => none, 0, fun _ => False, fun i => i = pb ∨ i = mp⟩, ∀ i, x.2.T i → (∃ y ∈ m.L, y.2.T i) ∨ w4.heap.size ≤ i by
    obtain ⟨g1, g2, g3, g4, g5, g6⟩ := GE.out
    have hs5 := WS.out
    intro x hx
    rcases List.mem_cons.1 hx with rfl | hx
    ·rintro i (h | h | h | h | h)
     ·have h : i = w6.heap.size := h; exact .inr (by omega)
     ·cases h
     ·exact h.elim
     ·have h : i = pb := h; exact .inr (by omega)
     ·have h : i = mp := h; exact .inr (by omega)
    ·exact SEP.out x (List.mem_filter.1 hx).1)
   have F9 := Lib.hid (F8.out.trans hf8 fun i e => .inl (.inr (.inr (.inr e))))
   have NL := Lib.hid (show (addP Lk ⟨m.tn, k⟩ ⟨w6.heap.size, 0, 0, [], .slice none 0 0, pb, fun _ => none, 0, fun _ => False, fun i => i = pb ∨ i = mp⟩).length ≤ m.L.length + (k + 1) by
    unfold addP; rw [List.length_cons]; have := List.length_filter_le (fun x : Place × PartD => decide (x.1 ≠ ⟨m.tn, k⟩)) Lk; omega)
   clear hm8 hg8 hf8 hpm PD
   go_wp2_with fail
   go_roundw
   case rel =>
    refine ⟨k + 1, _, by go_num, by omega, MA.out, ?_, ?_, NL.out, SEP2.out, F9.out⟩
    ·intro i h1 h2
     rw [findP_add]
     by_cases e : (⟨m.tn, i⟩ : Place) = ⟨m.tn, k⟩
     ·rw [if_pos e]; exact ⟨_, rfl, ⟨rfl, rfl, rfl, rfl, rfl⟩⟩
     ·rw [if_neg e]; exact L1.out i h1 (by
       have : i ≠ (k : Int) := fun h => e (by rw [h])
       omega)
    ·intro p hp
     have hp2 : p ≠ ⟨m.tn, k⟩ := fun e => hp (by rw [e]; exact ⟨rfl, Int.natCast_nonneg k, by push_cast; show (k : Int) < k + 1; omega⟩)
     rw [findP_add, if_neg hp2]
     exact L2.out p fun h => hp ⟨h.1, h.2.1, by push_cast; have := h.2.2; omega⟩
   case measure => simp [intOf]; omega
  ·have hkc : (k : Int) = q.count := by omega
   have HKC := Lib.hid hkc
   have hge : ¬ ((k : Int) < q.count) := hlt
   clear hkc
   go_wp2_with fail
   refine (tells_ok m.tn wr).mono ?_
   rintro e w8 ⟨rfl, hf8⟩
   have X8 := (hf8.block _ (lt_of_heap X1w.out) fun h => h).trans X1w.out
   have R9 := setRow_heap w8 (w.heap.size + 1) _ (repA 0 m.tn 0 0 0 0 0 (.slice none 0 0) (.slice none 0 0) (.slice none 0 0)) 31 (0, 0) X8
   have fE := frRow (S := fun i => i = w.heap.size + 1) (Fr.refl _ w8) (.inl rfl) (repA 0 m.tn 0 0 0 0 0 (.slice none 0 0) (.slice none 0 0) (.slice none 0 0))
   have MF := Lib.hid ((M5.out.old hf8).fr fE (fun i hi e => by have := LT.out i hi; omega) fun x hx i hi e => by
    have hlx := LX1.out
    rcases SEP.out x hx i hi with ⟨y, hy, hyi⟩ | h
    ·have := LOW.out.2 y hy i hyi; omega
    ·omega)
   have FF := Lib.hid (((F4.out.trans F.out fun i h => .inl h).trans hf8 fun _ h => h.elim).trans fE fun i e => .inr (by omega))
   clear hf8 fE
   go_wp2_with (refine wpList_store31 rfl _ _ rfl (w.heap.size + 1) 0 m.tn rfl rfl _ X8 rfl ?_)
   try simp only [Exit.inBlock, Exit.then]
   refine bodyPost_ret (results_cell_row rfl _ _ (w.heap.size + 1) 31 _ (0, 0) _ rfl R9 Tryz.underlying31 rfl (by kernel_rfl)) rfl ?_
   exact ⟨rfl, _, MF.out, rfl, rfl, rfl, rfl, fun i h1 h2 => L1.out i h1 (by have := HKC.out; omega), fun p hp => L2.out p fun h => hp ⟨h.1, h.2.1, by have := HKC.out; have := h.2.2; omega⟩, fun i h => h, fun x hx i hi => (SEP.out x hx i hi).imp id fun h => Nat.le_trans F4.out.size h, by have := HKC.out; dsimp only; omega, FF.out⟩
end
end Go.Proofs.YtfdhofabgdkkkaaGreatDoor
