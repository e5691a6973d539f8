/- A machine, a coordinator, a group, made new. -/
import Derived.Test.YtfdhofabgdkkkaaGreatDoorU30
namespace Go.Proofs.YtfdhofabgdkkkaaGreatDoor
open Go.RowKit Go.Fm Go.BigFrame Go.Shelf Go.Maps
set_option linter.unusedVariables false
set_option linter.unusedSimpArgs false
set_option maxRecDepth 100000
section
variable {w w' : World} {S : Nat → Prop}
set_option maxHeartbeats 16000000 in
theorem gnew_ok (a b : Int) (h : (1 ≤ a ∧ a ≤ 100000) ∧ 1 ≤ b ∧ b ≤ 100000) : Calls Tryz.prog 65 #[.int .i64 a, .int .i64 b] w fun e w' => (∃ p, e = .returned (.tuple #[.pointer p, .int .i64 0])) ∧ Fr (fun _ => False) w w' := by
 obtain ⟨⟨h1, h2⟩, h3, h4⟩ := h
 have FF := Lib.hid ((Fr.same w).alloc (.cells #[.int .i64 a, .int .i64 b, .int .i64 0, .int .i64 0, .int .i64 0, .int .i64 0, .slice none 0 0] 216))
 go_enter Tryz.func65, Tryz.ntmps65
 go_wp2_with fail
 go_ret2
 exact ⟨⟨_, rfl⟩, FF.out⟩
set_option maxHeartbeats 16000000 in
theorem gnew_zero : Calls Tryz.prog 65 #[.int .i64 0, .int .i64 0] w fun e w' => e = .returned (.tuple #[.pointer none, .int .i64 1]) ∧ w' = w := by
 go_enter Tryz.func65, Tryz.ntmps65
 go_wp2_with fail
 go_ret2
 exact ⟨rfl, rfl⟩
set_option maxHeartbeats 16000000 in
theorem onew_walk : Calls Tryz.prog 66 #[.int .i64 1000] w fun e w' => (∃ p, e = .returned (.tuple #[.pointer p, .int .i64 0])) ∧ Fr (fun _ => False) w w' := by
 have f1 := (Fr.same w).alloc (.map #[] 0)
 have FF := Lib.hid (f1.alloc (.cells #[.int .i64 1000, .map (some w.heap.size)] 219))
 have hmm := @run_makeMap Tryz.prog
 clear f1
 go_enter Tryz.func66, Tryz.ntmps66
 go_wp2_with fail
 go_ret2
 exact ⟨⟨_, rfl⟩, FF.out⟩
set_option maxHeartbeats 16000000 in
theorem cnew_ok (a b : Int) (h : (1 ≤ a ∧ a ≤ 100000) ∧ 1 ≤ b ∧ b ≤ 100000) : Calls Tryz.prog 29 #[.int .i64 a, .int .i64 b] w fun e w' => (∃ p, e = .returned (.tuple #[.pointer p, .int .i64 0])) ∧ Fr (fun _ => False) w w' := by
 have HG := Lib.hid h
 clear h
 go_enter Tryz.func29, Tryz.ntmps29
 go_wp2_with fail
 refine (gnew_ok a b HG.out).mono ?_
 rintro e w1 ⟨⟨p, rfl⟩, f1⟩
 have F1 := Lib.hid f1
 clear f1
 go_wp2_with fail
 refine onew_walk.mono ?_
 rintro e w2 ⟨⟨q, rfl⟩, f2⟩
 have F2 := Lib.hid (((F1.out.tr f2).alloc (.map #[] 0)).alloc (.cells #[.int .i64 a, .int .i64 b, .map (some w2.heap.size), .pointer q] 139))
 have hmm := @run_makeMap Tryz.prog
 clear f2
 go_wp2_with fail
 go_ret2
 exact ⟨⟨_, rfl⟩, F2.out⟩
set_option maxHeartbeats 16000000 in
theorem cnew_zero : Calls Tryz.prog 29 #[.int .i64 0, .int .i64 0] w fun e w' => e = .returned (.tuple #[.pointer none, .int .i64 1]) ∧ w' = w := by
 go_enter Tryz.func29, Tryz.ntmps29
 go_wp2_with fail
 refine gnew_zero.mono ?_
 rintro e w1 ⟨rfl, rfl⟩
 go_wp2_with fail
 go_ret2
 exact ⟨rfl, rfl⟩
set_option maxHeartbeats 16000000 in
theorem snew_zero : Calls Tryz.prog 11 #[.int .i64 0, .int .i64 0] w fun e w' => e = .returned (.tuple #[.pointer none, .int .i64 1]) ∧ w' = w := by
 go_enter Tryz.func11, Tryz.ntmps11
 go_wp2_with fail
 refine cnew_zero.mono ?_
 rintro e w1 ⟨rfl, rfl⟩
 go_wp2_with fail
 go_ret2
 exact ⟨rfl, rfl⟩
/-- A partition: where it lies, where it starts and ends, its batches and the slice of them, its producers; T: the blocks that are its own. -/
structure PartD where
 xb : Nat
 st : Int
 en : Int
 bats : List Bat
 bv : Value
 pb : Nat
 F : ProdF
 n : Nat
 K : Nat → Prop
 S : Nat → Prop
def PartD.T (d : PartD) : Nat → Prop := fun i => i = d.xb ∨ d.bv.ownBlock = some i ∨ d.K i ∨ d.S i
structure PartA (w : World) (d : PartD) : Prop where
 b : w.heap[d.xb]? = some (.cells #[.int .i64 d.st, .int .i64 d.en, d.bv, .pointer (some ⟨d.pb, 0, none⟩)] 102 (0, 0))
 own : OwnBats d.K 1 w d.bv d.bats
 prod : ProdW w d.pb d.S d.n d.F
 lt : ∀ i, d.T i → 0 < i ∧ i < w.heap.size
 x1 : d.bv.ownBlock ≠ some d.xb
 x2 : ¬ d.K d.xb
 x3 : ¬ d.S d.xb
 s1 : ∀ k, d.bv.ownBlock = some k → ¬ d.S k
 s2 : ∀ k, d.K k → ¬ d.S k
theorem PartA.fr {d : PartD} (h : PartA w d) (hf : Fr S w w') (hS : ∀ i, d.T i → ¬ S i) : PartA w' d :=
 ⟨(hf.block _ (lt_of_heap h.b) (hS _ (.inl rfl))).trans h.b, by
  obtain ⟨zs, e, h1, h2⟩ := h.own
  refine ⟨zs, e, own_eq h1 fun k hk => hf.block k (own_lt h1 hk).2 (hS _ (.inr (.inl hk))), fun z hz => (h2 z hz).fr hf fun k hk => hS _ (.inr (.inr (.inl hk.1)))⟩,
  h.prod.fr hf fun i hi => hS _ (.inr (.inr (.inr hi))), fun i hi => ⟨(h.lt i hi).1, Nat.lt_of_lt_of_le (h.lt i hi).2 hf.size⟩, h.x1, h.x2, h.x3, h.s1, h.s2⟩
theorem PartA.old {d : PartD} (h : PartA w d) (hf : Fr (fun _ => False) w w') : PartA w' d := h.fr hf fun _ _ h => h
/-- A machine: its block, its topics, the map of its partitions. -/
structure MachD where
 mb : Nat
 tb : Nat
 tmb : Nat
 pm : Nat
 tn : Int
 TL : List (ByteArray × Value)
 cv : Value
 next : Int
 L : List (Place × PartD)
def prows (L : List (Place × PartD)) : List (Place × Value) := L.map fun x => (x.1, .pointer (some ⟨x.2.xb, 0, none⟩))
def MachD.B (m : MachD) : Nat → Prop := fun i => i = m.mb ∨ i = m.tb ∨ i = m.tmb ∨ i = m.pm
structure MachA (w : World) (m : MachD) : Prop where
 b : w.heap[m.mb]? = some (.cells #[.pointer (some ⟨m.tb, 0, none⟩), m.cv, .int .i64 m.next, .map (some m.pm)] 83 (0, 0))
 top : TopA w m.tb m.tmb m.tn m.TL
 map : MapG placeK w m.pm (prows m.L)
 n1 : m.mb ≠ m.tb ∧ m.mb ≠ m.tmb ∧ m.mb ≠ m.pm ∧ m.tb ≠ m.pm ∧ m.tmb ≠ m.pm
 pos : 0 < m.mb ∧ 0 < m.tb ∧ 0 < m.tmb ∧ 0 < m.pm
 part : ∀ x ∈ m.L, PartA w x.2
 off : ∀ x ∈ m.L, ∀ i, x.2.T i → ¬ m.B i
 dis : m.L.Pairwise fun x y => ∀ i, x.2.T i → ¬ y.2.T i
 ids : ∀ r ∈ m.TL, ∃ i p, r.2 = oneV i p ∧ 0 ≤ i ∧ i < m.tn
 tn : 0 ≤ m.tn ∧ m.tn ≤ 1073741824
 nx : 0 ≤ m.next ∧ m.next ≤ 1073741824
theorem MachA.fr {m : MachD} (h : MachA w m) (hf : Fr S w w') (h1 : ∀ i, m.B i → ¬ S i) (h2 : ∀ x ∈ m.L, ∀ i, x.2.T i → ¬ S i) : MachA w' m :=
 ⟨(hf.block _ (lt_of_heap h.b) (h1 _ (.inl rfl))).trans h.b, h.top.fr hf (h1 _ (.inr (.inl rfl))) (h1 _ (.inr (.inr (.inl rfl)))), h.map.fr hf (h1 _ (.inr (.inr (.inr rfl)))), h.n1, h.pos, fun x hx => (h.part x hx).fr hf (h2 x hx), h.off, h.dis, h.ids, h.tn, h.nx⟩
theorem MachA.old {m : MachD} (h : MachA w m) (hf : Fr (fun _ => False) w w') : MachA w' m := h.fr hf (fun _ _ h => h) fun _ _ _ _ h => h
def NewPost (w : World) (e : Ending) (w' : World) : Prop := ∃ mb tb tmb pm cv, e = .returned (.tuple #[.pointer (some ⟨mb, 0, none⟩), .int .i64 0]) ∧ MachA w' ⟨mb, tb, tmb, pm, 0, [], cv, 0, []⟩ ∧ (w.heap.size ≤ mb ∧ w.heap.size ≤ tb ∧ w.heap.size ≤ tmb ∧ w.heap.size ≤ pm) ∧ Fr (fun _ => False) w w'
set_option maxHeartbeats 16000000 in
theorem snew_ok (a b : Int) (h : (1 ≤ a ∧ a ≤ 100000) ∧ 1 ≤ b ∧ b ≤ 100000) (h0 : 0 < w.heap.size) : Calls Tryz.prog 11 #[.int .i64 a, .int .i64 b] w (NewPost w) := by
 have HG := Lib.hid h
 clear h
 go_enter Tryz.func11, Tryz.ntmps11
 go_wp2_with fail
 refine (cnew_ok a b HG.out).mono ?_
 rintro e w1 ⟨⟨p, rfl⟩, f1⟩
 have F1 := Lib.hid f1
 clear f1
 go_wp2_with fail
 refine (tnew_walk w1).mono ?_
 rintro e w2 ⟨tb, tmb, rfl, ht, h1, h2, f2⟩
 have f3 := (Fr.same w2).alloc (.map #[] 0)
 have m3 := MapG.made placeK w2
 have f4 := (Fr.same (w2.alloc (.map #[] 0))).alloc (.cells #[.pointer (some ⟨tb, 0, none⟩), .pointer p, .int .i64 0, .map (some w2.heap.size)] 83)
 have x4 := heap_alloc_self (w2.alloc (.map #[] 0)) (.cells #[.pointer (some ⟨tb, 0, none⟩), .pointer p, .int .i64 0, .map (some w2.heap.size)] 83)
 have s3 : (w2.alloc (.map #[] 0)).heap.size = w2.heap.size + 1 := by simp
 rw [s3] at x4
 have T4 := Lib.hid ((ht.old f3).old f4)
 have M4 := Lib.hid (m3.fr f4 fun h => h)
 have X4 := Lib.hid x4
 have lt1 := lt_of_heap ht.b
 have lt2 := ht.m.lt
 have S1 := F1.out.size
 have S2 := f2.size
 have F4 := Lib.hid (((F1.out.tr f2).tr f3).tr f4)
 have LT := Lib.hid (show tb < w2.heap.size ∧ tmb < w2.heap.size ∧ w.heap.size ≤ w1.heap.size ∧ w1.heap.size ≤ w2.heap.size from ⟨lt1, lt2, S1, S2⟩)
 have HH := Lib.hid (show w1.heap.size ≤ tb ∧ w1.heap.size ≤ tmb ∧ 0 < w.heap.size from ⟨h1, h2, h0⟩)
 clear ht f2 f3 m3 f4 x4 s3 lt1 lt2 S1 S2 h1 h2 h0
 have hmm := @run_makeMap Tryz.prog
 go_wp2_with fail
 go_ret2
 obtain ⟨a1, a2, a3, a4⟩ := LT.out
 obtain ⟨b1, b2, b3⟩ := HH.out
 have hne := T4.out.ne
 refine ⟨w2.heap.size + 1, tb, tmb, w2.heap.size, .pointer p, rfl, ⟨X4.out, T4.out, M4.out, ⟨?_, ?_, ?_, ?_, ?_⟩, ⟨?_, ?_, ?_, ?_⟩, ?_, ?_, List.Pairwise.nil, ?_, ?_, ?_⟩, ⟨?_, ?_, ?_, ?_⟩, F4.out⟩
 all_goals (try dsimp only)
 all_goals first | omega | (intro x hx; cases hx)
end
end Go.Proofs.YtfdhofabgdkkkaaGreatDoor
/- A machine: find, End. -/
namespace Go.Proofs.YtfdhofabgdkkkaaGreatDoor
open Go.RowKit Go.Fm Go.BigFrame Go.Shelf Go.Maps
set_option linter.unusedVariables false
set_option linter.unusedSimpArgs false
set_option maxRecDepth 100000
section
variable {w w' : World} {S : Nat → Prop}
def idOf (v : Value) : Int := match v with | .agg a => intOf (a.getD 0 undef) | _ => 0
theorem idOf_one (i p : Int) : idOf (oneV i p) = i := rfl
def findP (L : List (Place × PartD)) (p : Place) : Option PartD := (L.find? fun x => x.1 = p).map (·.2)
def findM (m : MachD) (name : ByteArray) (index : Int) : Option PartD := (getG m.TL name).bind fun v => findP m.L ⟨idOf v, index⟩
def pptr (o : Option PartD) : Value := match o with | some d => .pointer (some ⟨d.xb, 0, none⟩) | none => .pointer none
theorem prows_get (L : List (Place × PartD)) (p : Place) : (getG (prows L) p).getD (.pointer none) = pptr (findP L p) := by
 unfold getG prows findP
 rw [List.find?_map]
 cases h : L.find? ((fun r : Place × Value => decide (r.1 = p)) ∘ fun x => (x.1, Value.pointer (some ⟨x.2.xb, 0, none⟩))) with
 | none =>
  have h2 : L.find? (fun x => decide (x.1 = p)) = none := h
  rw [h2]; rfl
 | some x =>
  have h2 : L.find? (fun x => decide (x.1 = p)) = some x := h
  rw [h2]; rfl
theorem findP_mem {L : List (Place × PartD)} {p : Place} {d : PartD} (h : findP L p = some d) : (p, d) ∈ L := by
 unfold findP at h
 cases hf : L.find? fun x => x.1 = p with
 | none => rw [hf] at h; cases h
 | some r =>
  rw [hf] at h
  have h1 := List.find?_some hf
  have h2 := List.mem_of_find?_eq_some hf
  simp at h h1
  obtain ⟨a, y⟩ := r
  simp at h h1
  subst h h1
  exact h2
theorem findM_mem {m : MachD} {name : ByteArray} {index : Int} {d : PartD} (h : findM m name index = some d) : ∃ p, (p, d) ∈ m.L := by
 unfold findM at h
 cases hg : getG m.TL name with
 | none => rw [hg] at h; cases h
 | some v => rw [hg] at h; exact ⟨_, findP_mem h⟩
theorem zeroPP (w : World) : (zeroValue 87).run Tryz.prog w = .ok (.pointer none) w := by kernel_rfl
set_option maxHeartbeats 16000000 in
theorem mfind_walk {m : MachD} (h : MachA w m) (name : ByteArray) (index : Int) (hn : name.size ≤ maxLen) (hi : (Lit.int .i64 index).wf = true) : Calls Tryz.prog 33 #[.pointer (some ⟨m.mb, 0, none⟩), .string name, .int .i64 index] w fun e w' => e = .returned (pptr (findM m name index)) ∧ Fr (fun _ => False) w w' := by
 have dd := fun j => cell_of h.b j
 have H := Lib.hid h
 have HI := Lib.hid hi
 have CW := Lib.hid (tfind_walk h.top name hn)
 clear h hi
 go_enter Tryz.func33, Tryz.ntmps33
 go_wp2_with fail
 refine CW.out.mono ?_
 rintro e w2 ⟨hcase, hf2⟩
 have F2 := Lib.hid hf2
 have H2 := Lib.hid (H.out.old hf2)
 clear hf2 dd CW
 rcases hcase with ⟨i, p, hg, rfl⟩ | ⟨hg, rfl⟩
 ·obtain ⟨i', p', he, h0, h1⟩ := H.out.ids _ (getG_some hg)
  have he : oneV i p = oneV i' p' := he
  have hii : i = i' := by have := congrArg idOf he; simpa [idOf_one] using this
  subst hii
  have ht := H.out.tn
  have PK : PlaceOK ⟨i, index⟩ := ⟨by simp [Lit.wf, IntKind.min, IntKind.max, IntKind.signed, IntKind.bits]; omega, HI.out⟩
  have hlk := H2.out.map.look1 placeLaw Tryz.underlying81 (zeroPP w2) PK
  rw [prows_get] at hlk
  have RES := Lib.hid (show findM m name index = findP m.L ⟨i, index⟩ by unfold findM; rw [hg]; rfl)
  have dd := fun j => cell_of H2.out.b j
  dsimp only [placeK, placeV] at hlk
  clear he h0 h1 ht PK hg
  cases hf : findP m.L ⟨i, index⟩ with
  | none =>
   rw [hf] at hlk RES
   dsimp only [pptr] at hlk
   clear hf
   go_wp2_with fail
   go_ret
   exact ⟨by rw [RES.out]; rfl, F2.out⟩
  | some d =>
   rw [hf] at hlk RES
   dsimp only [pptr] at hlk
   clear hf
   go_wp2_with fail
   go_ret
   exact ⟨by rw [RES.out]; rfl, F2.out⟩
 ·have RES := Lib.hid (show findM m name index = none by unfold findM; rw [hg]; rfl)
  clear hg
  go_wp2_with fail
  go_ret
  exact ⟨by rw [RES.out]; rfl, F2.out⟩
def endM (m : MachD) (name : ByteArray) (index : Int) : Int := match findM m name index with | some d => d.en | none => -1
set_option maxHeartbeats 16000000 in
theorem mend_walk {m : MachD} (h : MachA w m) (name : ByteArray) (index : Int) (hn : name.size ≤ maxLen) (hi : (Lit.int .i64 index).wf = true) : Calls Tryz.prog 16 #[.pointer (some ⟨m.mb, 0, none⟩), .string name, .int .i64 index] w fun e w' => e = .returned (.int .i64 (endM m name index)) ∧ Fr (fun _ => False) w w' := by
 have CW := Lib.hid (mfind_walk h name index hn hi)
 have H := Lib.hid h
 clear h
 go_enter Tryz.func16, Tryz.ntmps16
 go_wp2_with fail
 refine CW.out.mono ?_
 rintro e w2 ⟨rfl, hf2⟩
 have F2 := Lib.hid hf2
 have H2 := Lib.hid (H.out.old hf2)
 clear hf2 CW
 cases hf : findM m name index with
 | none =>
  have RES := Lib.hid (show endM m name index = -1 by unfold endM; rw [hf])
  dsimp only [pptr]
  clear hf
  go_wp2_with fail
  go_ret
  exact ⟨by rw [RES.out]; rfl, F2.out⟩
 | some d =>
  obtain ⟨p, hm⟩ := findM_mem hf
  have dd := fun j => cell_of (H2.out.part _ hm).b j
  have RES := Lib.hid (show endM m name index = d.en by unfold endM; rw [hf])
  dsimp only [pptr] at dd ⊢
  clear hf hm
  go_wp2_with fail
  go_ret
  exact ⟨by rw [RES.out]; rfl, F2.out⟩
end
end Go.Proofs.YtfdhofabgdkkkaaGreatDoor
