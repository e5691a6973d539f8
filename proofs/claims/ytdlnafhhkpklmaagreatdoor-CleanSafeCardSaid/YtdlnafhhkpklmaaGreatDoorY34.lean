/- A disk of many files: Fuse, Names, Drop, Rename: the walks. -/
import Derived.Test.YtdlnafhhkpklmaaGreatDoorY33
import Derived.Test.YtdlnafhhkpklmaaGreatDoorY28
import Derived.LaidEqlPtr
namespace Go.Proofs.YtdlnafhhkpklmaaGreatDoor
open Go.RowKit Go.Fm Go.BigFrame Go.Maps Go.Shelf
set_option linter.unusedVariables false
set_option linter.unusedSimpArgs false
set_option maxRecDepth 100000
section
variable {ops : Array Oper} {rest : List Oper} {o : Oper} {a : Act} {Q : Exit → Act → World → Prop}
theorem TabM.del {w w' : World} {b n : Nat} {L : List Row} {D : DataW Unit} (h0 : RowsOK L) (h1 : w.ownsMap Tryz.prog 9 ptrElem b n D) (h2 : Maps.size D = L.length)
  (h3 : ∀ k : ByteArray, k.size ≤ maxLen → ∀ z, D.atKey (keyL k) z = match getL L k with | some a => dat a | none => z) {k : ByteArray} (hk : k.size ≤ maxLen)
  {m : Nat} (h4 : w'.ownsMap Tryz.prog 9 ptrElem b m (D.del (keyL k))) : TabM w' b (delL L k) := by
 have isk : WideAt.IsKeyLit (keyL k) := trivial
 refine ⟨rows_del h0 k, _, own_tight h4, ?_, fun k' hk' z => ?_⟩
 ·have h5 := size_del (k := keyL k) (h1.tidy sLaw)
  rw [TabM.has (w := w) (b := b) h3 hk, h2] at h5
  have := len_strike h0.nodup k
  omega
 ·rw [getL_del]
  by_cases e : k' = k
  ·subst e
   rw [atKey_del_same]; simp
  ·rw [atKey_del_other (fun h => e (keyL_inj h)), h3 k' hk', if_neg e]
   cases getL L k' <;> rfl
theorem wpList_del (w : World) (hg : o.guard = none) (m x : Operand) (hop : o.op = Op.call { callee := Callee.builtin Builtin.delete, args := #[m, x], argTypes := #[84, 9] }) (b : Nat) (L : List Row) (hm : a.eval m = .map (some b)) (ht : TabM w b L)
  (k : ByteArray) (hx : a.eval x = .string k) (hk : k.size ≤ maxLen)
  (hK : ∀ w', TabM w' b (delL L k) → w.grownBy w' (some b) → wpList Tryz.prog ops Q rest (a.put o.dst (.tuple #[])) w') : wpList Tryz.prog ops Q (o :: rest) a w := by
 obtain ⟨h0, D, h1, h2, h3⟩ := ht
 refine wpList_delete_own w hg m x 84 9 hop 109 sLaw Tryz.underlying84 ptrElem b _ D hm h1 (.string k) _ hx (keyOf_mk hk) fun w' h7 h8 => hK w' (TabM.del h0 h1 h2 h3 hk h7) h8.grown
end
section
variable {w w' : World} {db mb : Nat} {room used fuse : Int} {L : List Row} {F F' : ByteArray → ByteArray × Nat}
theorem del_mem {L : List Row} {nm : ByteArray} {r : Row} (h : r ∈ delL L nm) : r ∈ L ∧ r.1 ≠ nm := by
 have := List.mem_filter.1 h
 exact ⟨this.1, by simpa using this.2⟩
theorem DkS.del {db mb : Nat} {L : List Row} {nm : ByteArray} {i : Nat} (h : DkS db mb (delL L nm) i) : DkS db mb L i := by
 rcases h with h | h | ⟨r, hr, e⟩
 ·exact .inl h
 ·exact .inr (.inl h)
 ·exact .inr (.inr ⟨r, (del_mem hr).1, e⟩)
theorem Dk.del (h : Dk w db mb room used fuse L F) (nm : ByteArray) (hm : TabM w' mb (delL L nm)) (hf : Fr (fun i => i = mb) w w') : Dk w' db mb room used fuse (delL L nm) F :=
 ⟨(hf.block _ (lt_of_heap h.d) fun e => h.ne e.symm).trans h.d, hm, fun r hr => (hf.block _ (lt_of_heap (h.f r (del_mem hr).1)) (h.ne_file (del_mem hr).1).2).trans (h.f r (del_mem hr).1),
  h.nd.sublist (List.filter_sublist.map _), Nat.le_trans (List.length_filter_le _ _) h.sz⟩
theorem dfuse_walk (h : Dk w db mb room used fuse L F) (n : Int) (hn : -1 ≤ n) :
  Calls Tryz.prog 23 #[.pointer (some ⟨db, 0, none⟩), .int .i64 n] w fun e w' => e = .returned (.int .i64 0) ∧ Dk w' db mb room used n L F ∧ Fr (DkS db mb L) w w' := by
 have hn' : ¬ n < -1 := by omega
 have f2 := fz_of h.d 2
 have hfr : Fr (fun i => i = db) w (w.setCell ⟨db, 2, none⟩ (.int .i64 n)) := Fr.setCell (S := fun i => i = db) (p := ⟨db, 2, none⟩) (Fr.refl _ w) (.inl rfl) _
 have D1 := Lib.hid (h.setNum _ (room' := room) (used' := used) (fuse' := n) (by rw [heap_setCell_self h.d]; rfl) hfr)
 have F1 := Lib.hid (hfr.mono (S' := DkS db mb L) fun i e => .inl (.inl e))
 have c2 : w.cell? ⟨db, 2, none⟩ = some (.int .i64 fuse) := (cell_of h.d 2).trans rfl
 clear h hfr
 go_enter Tryz.func23, Tryz.ntmps23
 go_wp2_with fail
 go_ret
 exact ⟨rfl, D1.out, F1.out⟩
theorem own_base {w : World} {B B' : Nat} {e : TypeId} {s : Nat} {v : Value} {n : Nat} {xs : List Value} (h : w.ownsRow B e s v n xs) (hB : B' ≤ B) : w.ownsRow B' e s v n xs :=
 ⟨h.1, h.2.imp id fun ⟨g, cap, cur, hv, hb, r⟩ => ⟨g, cap, cur, hv, Nat.le_trans hB hb, r⟩⟩
/-- The names of a disk that is up, in their order. -/
theorem names_walk (h : Dk w db mb room used fuse L F) (hfu : fuse ≠ 0) : Calls Tryz.prog 77 #[.pointer (some ⟨db, 0, none⟩)] w fun e w' => ∃ v, e = .returned v ∧ w'.ownsRow w.heap.size 9 1 v L.length ((sortB (L.map (·.1))).flatMap keyC) ∧ Fr (fun _ => False) w w' := by
 have c3 : w.cell? ⟨db, 3, none⟩ = some (.map (some mb)) := (cell_of h.d 3).trans rfl
 have H := Lib.hid h
 clear h
 go_enter Tryz.func77, Tryz.ntmps77
 go_wp2_with fail
 refine (asked_walk H.out hfu).mono ?_
 rintro e w1 ⟨rfl, hw⟩
 subst hw
 go_wp2_with fail
 refine (keysSeq_walk mb _).mono ?_
 rintro e w2 ⟨rfl, hw⟩
 have F1 : Fr (fun _ => False) w1 w2 := by rw [hw]; exact (Fr.same w1).alloc _
 have H1 := H.out.old F1
 have C1 : w2.cell? ⟨w1.heap.size, 0, none⟩ = some (.map (some mb)) := by rw [hw]; exact cell_alloc_new _ _ _ 0
 have HS := Lib.hid (sorted_any w1.heap.size mb L w2 C1 H1.m (by have := H1.sz; omega))
 have F1 := Lib.hid F1
 clear hw c3 C1 H1
 go_wp2_with fail
 refine HS.out.mono ?_
 rintro e w3 ⟨v, rfl, ho, hf⟩
 rw [List.length_map] at ho
 have HO := Lib.hid (own_base ho F1.out.size)
 have F3 := Lib.hid (F1.out.tr hf)
 clear ho hf HS
 go_wp2_with fail
 go_ret
 exact ⟨v, rfl, HO.out, F3.out⟩
def DDropPost (w : World) (db mb : Nat) (room used fuse : Int) (L : List Row) (F : ByteArray → ByteArray × Nat) (nm : ByteArray) (e : Ending) (w' : World) : Prop :=
 e = .returned (.int .i64 (synCode fuse L nm)) ∧ (synCode fuse L nm = 0 → Dk w' db mb room (used - (F nm).1.size) (burn fuse) (delL L nm) F ∧ Fr (DkS db mb L) w w') ∧ (synCode fuse L nm ≠ 0 → Fr (fun _ => False) w w')
theorem ddrop_any (h : Dk w db mb room used fuse L F) (ho : DkOK room used fuse L F) (nm : ByteArray) (h2 : nm.size ≤ 40) :
  Calls Tryz.prog 76 #[.pointer (some ⟨db, 0, none⟩), .string nm] w (DDropPost w db mb room used fuse L F nm) := by
 have hml : nm.size ≤ maxLen := by unfold maxLen; omega
 by_cases hfu : fuse = 0
 ·subst hfu
  have HC := Lib.hid (file_down h nm)
  have hcode : synCode 0 L nm = 7 := rfl
  clear h
  unfold DDropPost
  rw [hcode]
  go_enter Tryz.func76, Tryz.ntmps76
  go_wp2_with fail
  refine HC.out.mono ?_
  rintro e w1 ⟨rfl, rfl⟩
  go_wp2_with fail
  go_ret
  exact ⟨rfl, fun h => (by cases h), fun _ => Fr.same _⟩
 ·have hc := file_walk h hfu nm hml
  cases hg : getL L nm with
  | none =>
   rw [hg] at hc
   simp only [Option.isSome_none, boxV] at hc
   have HC := Lib.hid hc
   have hcode : synCode fuse L nm = 6 := by unfold synCode; rw [if_neg hfu, hg]; rfl
   clear h hc
   unfold DDropPost
   rw [hcode]
   go_enter Tryz.func76, Tryz.ntmps76
   go_wp2_with fail
   refine HC.out.mono ?_
   rintro e w1 ⟨rfl, rfl⟩
   go_wp2_with fail
   go_ret
   exact ⟨rfl, fun h => (by cases h), fun _ => Fr.same _⟩
  | some fb =>
   rw [hg] at hc
   simp only [Option.isSome_some, boxV, ptrV] at hc
   have HC := Lib.hid hc
   have hcode : synCode fuse L nm = 0 := by unfold synCode; rw [if_neg hfu, hg]; rfl
   have hmm := getL_some hg
   have hfs := ho.fs _ hmm
   dsimp only at hfs
   have HK := Lib.hid (keep_walk h nm hg (F nm).1 (F nm).2 0 rfl (Nat.zero_le _) hfs.1 ho.u0 ho.u1 (by omega))
   have HO := Lib.hid ho
   clear h hc hmm hfs ho
   unfold DDropPost
   rw [hcode]
   go_enter Tryz.func76, Tryz.ntmps76
   go_wp2_with fail
   refine HC.out.mono ?_
   rintro e w1 ⟨rfl, hw⟩
   subst hw
   go_wp2_with fail
   refine HK.out.mono ?_
   rintro e w2 ⟨rfl, hd, hf⟩
   have D2 := Lib.hid hd
   have F2 := Lib.hid hf
   have c3 : w2.cell? ⟨db, 3, none⟩ = some (.map (some mb)) := (cell_of hd.d 3).trans rfl
   clear hd hf HK HC
   go_wp2_with (at_delete; refine wpList_del _ rfl (.tmp 22) (.tmp 23) rfl mb L rfl D2.out.m nm rfl hml ?_)
   intro w3 hm3 hg3
   have hfr3 : Fr (fun i => i = mb) w2 w3 := (Fr.refl (fun i => i = mb) w2).grown hg3 fun k e => by cases e; exact .inl rfl
   have D3 := D2.out.del nm hm3 hfr3
   have D3 := Lib.hid (D3.congr (F' := F) fun r hr => by rw [updF_ne (del_mem hr).2])
   have F3 := Lib.hid (F2.out.trans hfr3 fun i e => .inl (.inr (.inl e)))
   clear hm3 hg3 hfr3 D2 F2 c3
   go_wp2_with fail
   refine (changed_walk D3.out HO.out.fw).mono ?_
   rintro e w4 ⟨rfl, hd, hf⟩
   have D4 := Lib.hid hd
   have F4 := Lib.hid (F3.out.trans hf fun i e => .inl (.inl e))
   clear hd hf
   go_wp2_with fail
   go_ret
   exact ⟨rfl, fun _ => ⟨by simpa using D4.out, F4.out⟩, fun h => absurd rfl h⟩
theorem Dk.putRow (h : Dk w db mb room used fuse L F) {nm : ByteArray} {fb : Nat} {t : ByteArray} {n : Nat} (hb : w.heap[fb]? = some (fileObj t n)) (hnew : fb ∉ L.map (·.2)) (hl : L.length < 1000) (hm : TabM w' mb (putR L nm fb)) (hf : Fr (fun i => i = mb) w w') :
  Dk w' db mb room used fuse (putR L nm fb) (updF F nm t n) := by
 have hfm : fb ≠ mb := fun e => by
  obtain ⟨es, clock, h1⟩ := tab_obj h.m
  rw [e, h1] at hb
  cases hb
 refine ⟨(hf.block _ (lt_of_heap h.d) fun e => h.ne e.symm).trans h.d, hm, fun r hr => ?_, ?_, ?_⟩
 ·rcases List.mem_cons.1 hr with rfl | hr
  ·rw [updF_same]; exact (hf.block _ (lt_of_heap hb) hfm).trans hb
  ·have h2 := del_mem (nm := nm) hr
   rw [updF_ne h2.2]
   exact (hf.block _ (lt_of_heap (h.f r h2.1)) (h.ne_file h2.1).2).trans (h.f r h2.1)
 ·unfold putR
  rw [List.map_cons, List.nodup_cons]
  refine ⟨fun hx => hnew ?_, h.nd.sublist (List.filter_sublist.map _)⟩
  obtain ⟨r, hr, e⟩ := List.mem_map.1 hx
  exact List.mem_map.2 ⟨r, (List.mem_filter.1 hr).1, e⟩
 ·have := List.length_filter_le (fun r => decide (r.1 ≠ nm)) L
  unfold putR
  rw [List.length_cons]; omega
theorem del_new (h : Dk w db mb room used fuse L F) {old : ByteArray} {fb : Nat} (hg : getL L old = some fb) : fb ∉ (delL L old).map (·.2) ∧ (delL L old).length < 1000 := by
 refine ⟨fun hx => ?_, ?_⟩
 ·obtain ⟨r, hr, e⟩ := List.mem_map.1 hx
  have h2 := del_mem hr
  have := snd_inj h.nd h2.1 (getL_some hg) e
  exact h2.2 (by rw [this])
 ·have h2 := len_strike h.m.1.nodup old
  rw [hg] at h2
  have := h.sz
  simp at h2
  omega
theorem info111 : (Tryz.prog.info? 111).map (fun i => (i.size == 0)) = some false := by kernel_rfl
theorem neq_file (w : World) {a b : Nat} {t u : ByteArray} {m n : Nat} (hne : a ≠ b) (ha : w.heap[a]? = some (fileObj t m)) (hb : w.heap[b]? = some (fileObj u n)) :
  (binOp .neq 109 (.pointer (some ⟨a, 0, none⟩)) (.pointer (some ⟨b, 0, none⟩))).run Tryz.prog w = .ok (.bool true) w := by
 have hi := info111
 cases hj : Tryz.prog.info? 111 with
 | none => rw [hj] at hi; cases hi
 | some j =>
  rw [hj] at hi
  have hsz : j.size ≠ 0 := by simpa using hi
  have h : ∀ d : Nat, (Op.equalIn (d + 1) 109 (.pointer (some ⟨a, 0, none⟩)) (.pointer (some ⟨b, 0, none⟩))).run Tryz.prog w = .ok false w := fun d => by
   simp [Op.equalIn, run_underlying Tryz.underlying109, sizeOf, typeInfo, hj, hsz, run_sameAddr_other w (a := ⟨a, 0, none⟩) (b := ⟨b, 0, none⟩) (fun e => hne (by injection e)) ha hb]
  simp only [binOp]
  simp [Op.equal, Op.maxDepth, h 9999]
set_option maxHeartbeats 4000000 in
theorem drename_ok (h : Dk w db mb room used fuse L F) (ho : DkOK room used fuse L F) (hfu : fuse ≠ 0) (old nm : ByteArray) (hne : old ≠ nm) (ho2 : old.size ≤ 40) (h1 : 1 ≤ nm.size) (h2 : nm.size ≤ 40) {fb : Nat} (hg : getL L old = some fb) :
  Calls Tryz.prog 119 #[.pointer (some ⟨db, 0, none⟩), .string old, .string nm] w fun e w' => e = .returned (.int .i64 0) ∧ Dk w' db mb room (used - (curF L F nm).1.size) (burn fuse) (putR (delL L old) nm fb) (updF F nm (F old).1 (F old).2) ∧ Fr (DkS db mb L) w w' := by
 have hml : old.size ≤ maxLen := by unfold maxLen; omega
 have hml2 : nm.size ≤ maxLen := by unfold maxLen; omega
 have hc := file_walk h hfu old hml
 rw [hg] at hc
 simp only [Option.isSome_some, boxV, ptrV] at hc
 have HC := Lib.hid hc
 have hmm := getL_some hg
 have hfs := ho.fs
 have hob := h.f _ hmm
 obtain ⟨hn1, hn2⟩ := del_new h hg
 have c3 : w.cell? ⟨db, 3, none⟩ = some (.map (some mb)) := (cell_of h.d 3).trans rfl
 have hlook := h.m.look hml2
 have HO := Lib.hid ho
 have HN := Lib.hid (⟨hn1, hn2⟩ : _ ∧ _)
 cases hg2 : getL L nm with
 | none =>
  have hcur : curF L F nm = (ByteArray.empty, 0) := by unfold curF; rw [hg2]
  rw [hcur]
  rw [hg2] at hlook
  simp only [Option.isSome_none, boxV] at hlook
  have H := Lib.hid h
  have HB := Lib.hid hob
  clear hc hmm hfs ho hob hcur hn1 hn2 h
  go_enter Tryz.func119, Tryz.ntmps119
  go_wp2_with fail
  refine HC.out.mono ?_
  rintro e w1 ⟨rfl, hw⟩
  subst hw
  go_wp2_with fail
  refine (named_walk nm _ h1 h2).mono ?_
  rintro e w2 ⟨rfl, hw⟩
  subst hw
  go_wp2_with (at_delete; refine wpList_del _ rfl (.tmp 44) (.tmp 45) rfl mb L rfl H.out.m old rfl hml ?_)
  intro w3 hm3 hg3
  have hfr3 : Fr (fun i => i = mb) w2 w3 := (Fr.refl (fun i => i = mb) w2).grown hg3 fun k e => by cases e; exact .inl rfl
  have D3 := Lib.hid (H.out.del old hm3 hfr3)
  have F3 := Lib.hid (hfr3.mono (S' := DkS db mb L) fun i e => .inl (.inr (.inl e)))
  have HB3 := Lib.hid ((hfr3.block _ (lt_of_heap HB.out) (H.out.ne_file (getL_some hg)).2).trans HB.out)
  have c3 : w3.cell? ⟨db, 3, none⟩ = some (.map (some mb)) := (cell_of D3.out.d 3).trans rfl
  clear hm3 hg3 hfr3 HB HC hlook
  go_wp2_with (at_mapUpdate; refine wpList_put _ rfl (.tmp 49) (.tmp 50) (.tmp 51) rfl mb (delL L old) rfl D3.out.m ?c1 nm rfl hml2 fb rfl ?_)
  case c1 => have := HN.out.2; omega
  intro w4 hm4 hg4
  have hfr4 : Fr (fun i => i = mb) w3 w4 := (Fr.refl (fun i => i = mb) w3).grown hg4 fun k e => by cases e; exact .inl rfl
  have D4 := Lib.hid (D3.out.putRow HB3.out HN.out.1 HN.out.2 hm4 hfr4)
  have F4 := Lib.hid (F3.out.trans hfr4 fun i e => .inl (.inr (.inl e)))
  clear hm4 hg4 hfr4 D3 F3 c3 HB3
  go_wp2_with fail
  refine (changed_walk D4.out HO.out.fw).mono ?_
  rintro e w5 ⟨rfl, hd, hf⟩
  have D5 := Lib.hid hd
  have F5 := Lib.hid (F4.out.trans hf fun i e => .inl (.inl e))
  clear hd hf
  go_wp2_with fail
  go_ret
  refine ⟨rfl, ?_, F5.out⟩
  rw [show ((ByteArray.empty, 0) : ByteArray × Nat).1.size = 0 from rfl, Int.natCast_zero, Int.sub_zero]
  exact D5.out
 | some wb =>
  have hcur : curF L F nm = F nm := by unfold curF; rw [hg2]
  rw [hcur]
  rw [hg2] at hlook
  simp only [Option.isSome_some, boxV, ptrV] at hlook
  have hwf : wb ≠ fb := fun e => by
   have := snd_inj h.nd (getL_some hg2) hmm e
   exact hne (by injection this with h9; exact h9.symm)
  have hq := neq_file w hwf (h.f _ (getL_some hg2)) hob
  have hfn := hfs _ (getL_some hg2)
  dsimp only at hfn
  have HK := Lib.hid (keep_walk h nm hg2 (F nm).1 (F nm).2 0 rfl (Nat.zero_le _) hfn.1 ho.u0 ho.u1 (by omega))
  have H := Lib.hid h
  have HM := Lib.hid hmm
  clear hc hmm hfs ho hob hcur hn1 hn2 h hfn
  go_enter Tryz.func119, Tryz.ntmps119
  go_wp2_with fail
  refine HC.out.mono ?_
  rintro e w1 ⟨rfl, hw⟩
  subst hw
  go_wp2_with fail
  refine (named_walk nm _ h1 h2).mono ?_
  rintro e w2 ⟨rfl, hw⟩
  subst hw
  go_wp2_with fail
  refine HK.out.mono ?_
  rintro e w2a ⟨rfl, hd, hf⟩
  have D2 := Lib.hid hd
  have F2 := Lib.hid hf
  have c3 : w2a.cell? ⟨db, 3, none⟩ = some (.map (some mb)) := (cell_of hd.d 3).trans rfl
  have hob := hd.f _ HM.out
  dsimp only at hob
  rw [updF_ne hne] at hob
  have HB := Lib.hid hob
  clear hd hf HK HC hob hlook
  go_wp2_with (at_delete; refine wpList_del _ rfl (.tmp 44) (.tmp 45) rfl mb L rfl D2.out.m old rfl hml ?_)
  intro w3 hm3 hg3
  have hfr3 : Fr (fun i => i = mb) w2a w3 := (Fr.refl (fun i => i = mb) w2a).grown hg3 fun k e => by cases e; exact .inl rfl
  have D3 := Lib.hid (D2.out.del old hm3 hfr3)
  have F3 := Lib.hid (F2.out.trans hfr3 fun i e => .inl (.inr (.inl e)))
  have HB3 := Lib.hid ((hfr3.block _ (lt_of_heap HB.out) (H.out.ne_file (getL_some hg)).2).trans HB.out)
  have c3 : w3.cell? ⟨db, 3, none⟩ = some (.map (some mb)) := (cell_of D3.out.d 3).trans rfl
  clear hm3 hg3 hfr3 HB D2 F2
  go_wp2_with (at_mapUpdate; refine wpList_put _ rfl (.tmp 49) (.tmp 50) (.tmp 51) rfl mb (delL L old) rfl D3.out.m ?c1 nm rfl hml2 fb rfl ?_)
  case c1 => have := HN.out.2; omega
  intro w4 hm4 hg4
  have hfr4 : Fr (fun i => i = mb) w3 w4 := (Fr.refl (fun i => i = mb) w3).grown hg4 fun k e => by cases e; exact .inl rfl
  have D4 := Lib.hid (D3.out.putRow HB3.out HN.out.1 HN.out.2 hm4 hfr4)
  have F4 := Lib.hid (F3.out.trans hfr4 fun i e => .inl (.inr (.inl e)))
  clear hm4 hg4 hfr4 D3 F3 c3 HB3
  go_wp2_with fail
  refine (changed_walk D4.out HO.out.fw).mono ?_
  rintro e w5 ⟨rfl, hd, hf⟩
  have D5 := Lib.hid hd
  have F5 := Lib.hid (F4.out.trans hf fun i e => .inl (.inl e))
  clear hd hf
  go_wp2_with fail
  go_ret
  refine ⟨rfl, ?_, F5.out⟩
  have hu : (used : Int) - (((F nm).1.size : Nat) - (0 : Nat)) = used - ((F nm).1.size : Nat) := by omega
  have h9 := D5.out.congr (F' := updF F nm (F old).1 (F old).2) fun r hr => by unfold updF; split <;> rfl
  simpa using h9
end
end Go.Proofs.YtdlnafhhkpklmaaGreatDoor
