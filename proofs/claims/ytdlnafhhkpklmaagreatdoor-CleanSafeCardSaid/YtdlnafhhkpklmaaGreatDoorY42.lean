/- Slices of slices of batches; the end and the count of batches. -/
import Derived.Test.YtdlnafhhkpklmaaGreatDoorY41
namespace Go.Proofs.YtdlnafhhkpklmaaGreatDoor
open Go.RowKit Go.Fm Go.BigFrame Go.Shelf Go.Maps
set_option linter.unusedVariables false
set_option linter.unusedSimpArgs false
set_option maxRecDepth 100000
section
variable {K K' : Nat → Prop} {B : Nat} {w w' : World} {v v' : Value} {ls : List (List Bat)}
/-- A slice of slices of batches. -/
def BatssR (K : Nat → Prop) (w : World) (v : Value) (ls : List (List Bat)) : Prop :=
 ∃ oa cap, v = .slice oa ls.length cap ∧ ls.length ≤ cap ∧ ∀ (k : Nat) (l : List Bat), ls[k]? = some l → ∃ a bv, oa = some a ∧ K a.block ∧ w.cell? (a.add k) = some bv ∧ BatsR K w bv l
theorem BatssR.to (h : BatssR K w v ls) (hk : ∀ b, K b → b < w.heap.size → K' b ∧ w'.heap[b]? = w.heap[b]?) : BatssR K' w' v ls := by
 obtain ⟨oa, cap, hv, hc, h⟩ := h
 refine ⟨oa, cap, hv, hc, fun k l hl => ?_⟩
 obtain ⟨a, bv, h1, h2, h3, h4⟩ := h k l hl
 have hlt := World.block_lt_of_cell? w _ h3
 rw [add_block] at hlt
 have h5 := hk a.block h2 hlt
 refine ⟨a, bv, h1, h5.1, ?_, h4.to hk⟩
 rw [← h3]
 have h6 : w'.heap[(a.add k).block]? = w.heap[(a.add k).block]? := by rw [add_block]; exact h5.2
 unfold World.cell?
 rw [h6]
theorem BatssR.fr {S : Nat → Prop} (h : BatssR K w v ls) (hf : Fr S w w') (hd : ∀ k, K k → ¬ S k) : BatssR K w' v ls := h.to fun b hb hl => ⟨hb, hf.block b hl (hd b hb)⟩
theorem BatssR.old (h : BatssR K w v ls) (hf : Fr (fun _ => False) w w') : BatssR K w' v ls := h.fr hf fun _ _ h => h
theorem BatssR.mono (h : BatssR K w v ls) (hk : ∀ b, K b → b < w.heap.size → K' b) : BatssR K' w v ls := h.to fun b hb hl => ⟨hk b hb hl, rfl⟩
def OwnBatss (K : Nat → Prop) (B : Nat) (w : World) (v : Value) (ls : List (List Bat)) : Prop :=
 ∃ zs : List (List Bat × Value), zs.map (·.1) = ls ∧ w.ownsRow B 22 1 v ls.length (zs.map (·.2)) ∧ ∀ z ∈ zs, BatsR (fun b => K b ∧ v.ownBlock ≠ some b) w z.2 z.1
theorem OwnBatss.nil (K : Nat → Prop) (B : Nat) (w : World) : OwnBatss K B w (.slice none 0 0) [] := ⟨[], rfl, World.ownsRow_nil _ _ _ _, fun z hz => by cases hz⟩
theorem OwnBatss.lt (h : OwnBatss K B w v ls) {k : Nat} (hk : v.ownBlock = some k) : B ≤ k ∧ k < w.heap.size := by
 obtain ⟨zs, h1, h2, h3⟩ := h
 exact own_lt h2 hk
theorem OwnBatss.slice (h : OwnBatss K B w v ls) : ∃ oa cap, v = .slice oa ls.length cap ∧ ls.length ≤ cap := by
 obtain ⟨zs, -, h2, -⟩ := h
 obtain ⟨oa, cap, hv, -⟩ := own_at h2
 refine ⟨oa, cap, hv, ?_⟩
 rcases h2.2 with ⟨e1, e2⟩ | ⟨g, cap', cur, e1, -, -, hle, -⟩
 ·rw [hv] at e1; injection e1 with _ e1 e3; omega
 ·rw [hv] at e1; injection e1 with _ e1 e3; omega
theorem OwnBatss.fr {S : Nat → Prop} (h : OwnBatss K B w v ls) (hf : Fr S w w') (hK : ∀ k, K k → ¬ S k) (ho : ∀ k, v.ownBlock = some k → ¬ S k) : OwnBatss K B w' v ls := by
 obtain ⟨zs, h1, h2, h3⟩ := h
 exact ⟨zs, h1, own_eq h2 fun k hk => hf.block k (own_lt h2 hk).2 (ho k hk), fun z hz => (h3 z hz).fr hf fun k hk => hK k hk.1⟩
theorem OwnBatss.old (h : OwnBatss K B w v ls) (hf : Fr (fun _ => False) w w') : OwnBatss K B w' v ls := h.fr hf (fun _ _ h => h) fun _ _ h => h
theorem OwnBatss.mono (h : OwnBatss K B w v ls) (hK : ∀ b, K b → b < w.heap.size → K' b) : OwnBatss K' B w v ls := by
 obtain ⟨zs, h1, h2, h3⟩ := h
 exact ⟨zs, h1, h2, fun z hz => (h3 z hz).mono fun b hb hl => ⟨hK b hb.1 hl, hb.2⟩⟩
theorem OwnBatss.reads (h : OwnBatss K B w v ls) (h1 : ∀ b, B ≤ b → b < w.heap.size → K' b) (h2 : ∀ b, K b → b < w.heap.size → K' b) : BatssR K' w v ls := by
 obtain ⟨oa, cap, hv, hcap⟩ := h.slice
 obtain ⟨zs, rfl, ho, hz⟩ := h
 obtain ⟨oa', cap', hv', hc⟩ := own_at ho
 rw [hv] at hv'
 injection hv' with e1 e2 e3
 subst e1 e3
 refine ⟨oa, cap, hv, hcap, fun k x hx => ?_⟩
 obtain ⟨g, rfl, hb, hB, hc⟩ := hc (by have := (List.getElem?_eq_some_iff.1 hx).1; omega)
 rw [List.getElem?_map] at hx
 obtain ⟨z, hz1, rfl⟩ := Option.map_eq_some_iff.1 hx
 refine ⟨_, z.2, rfl, h1 g hB (own_lt ho hb).2, ?_, (hz z (List.mem_of_getElem? hz1)).mono fun b hb hl => h2 b hb.1 hl⟩
 rw [add_lit]
 exact hc k _ (by rw [List.getElem?_map, hz1]; rfl)
theorem OwnBatss.push {zs : List (List Bat × Value)} (e : zs.map (·.1) = ls) (ho : w.ownsRow B 22 1 v ls.length (zs.map (·.2))) (hz : ∀ z ∈ zs, BatsR (fun b => K b ∧ v.ownBlock ≠ some b) w z.2 z.1) {l : List Bat} {bv : Value} (hr : BatsR (fun b => K b ∧ v.ownBlock ≠ some b) w bv l)
  (h2 : w'.ownsRow B 22 1 v' (ls.length + 1) (zs.map (·.2) ++ [bv])) (hg : w.grownBy w' v.ownBlock) (hb : v'.ownBlock = v.ownBlock ∨ v'.ownBlock = some w.heap.size) : OwnBatss K B w' v' (ls ++ [l]) := by
 have hto : ∀ b, (K b ∧ v.ownBlock ≠ some b) → b < w.heap.size → (K b ∧ v'.ownBlock ≠ some b) ∧ w'.heap[b]? = w.heap[b]? := fun b hb1 hl => by
  refine ⟨⟨hb1.1, ?_⟩, hg.block b hl fun e => hb1.2 e.symm⟩
  rcases hb with h | h
  ·rw [h]; exact hb1.2
  ·rw [h]; intro e; injection e with e; omega
 refine ⟨zs ++ [(l, bv)], by rw [List.map_append, e]; rfl, ?_, fun z hz1 => ?_⟩
 ·rw [List.length_append, List.map_append]
  exact h2
 ·rcases List.mem_append.1 hz1 with h | h
  ·exact (hz z h).to hto
  ·simp at h; subst h; exact hr.to hto
end
theorem info22 : (Tryz.prog.info? 22).map (fun i => (i.zero, i.size, i.bytes)) = some (some (.slice none 0 0), 1, 24) := by kernel_rfl
theorem bats_one {K : Nat → Prop} {w : World} {v : Value} {l : List Bat} (h : BatsR K w v l) : v.oneCell' = true := by
 obtain ⟨oa, cap, rfl, -⟩ := h
 rfl
section
variable {ops : Array Oper} {rest : List Oper} {o : Oper} {a : Act} {Q : Exit → Act → World → Prop}
/-- append of one slice of batches. -/
theorem wpList_push_bats (w : World) (hgd : o.guard = none) (s x : Operand) (ho : o.op = .call { callee := .builtin .append, args := #[s, x], argTypes := #[69, 69] })
  (K : Nat → Prop) (B : Nat) (v : Value) (ls : List (List Bat)) (hs : a.eval s = v) (hown : OwnBatss K B w v ls) (g c : Nat) (hx : a.eval x = .slice (some ⟨g, 0, none⟩) 1 c) (l : List Bat) (bv : Value)
  (hcell : w.cell? ⟨g, 0, none⟩ = some bv) (hr : BatsR (fun b => K b ∧ v.ownBlock ≠ some b) w bv l) (hlen : ls.length < 1000000) (hB : B ≤ w.heap.size)
  (h : ∀ v' w', OwnBatss K B w' v' (ls ++ [l]) → w.grownBy w' v.ownBlock → (v'.ownBlock = v.ownBlock ∨ v'.ownBlock = some w.heap.size) → wpList Tryz.prog ops Q rest (a.put o.dst v') w') : wpList Tryz.prog ops Q (o :: rest) a w := by
 obtain ⟨i, hi, hz, hs39, hb39⟩ := info_parts info22
 obtain ⟨zs, e, hw, hzs⟩ := hown
 refine wpList_append_own2 w hgd s x 69 ho B 22 i _ 1 24 Tryz.underlying69 hi hz hs39 hb39 rfl (by decide) v ls.length (zs.map (·.2)) hs hw ⟨g, 0, none⟩ 1 c [bv] hx rfl ?_ ?_ (by unfold maxLen; omega) (by omega) hB fun v' w' h1 h2 h3 => h v' w' (OwnBatss.push e hw hzs hr h1 h2 h3) h2 h3
 ·intro j u hj
  rw [add_lit]
  cases j with
  | zero => simp at hj; rw [hcell, hj]
  | succ j => simp at hj
 ·intro u hu
  simp only [List.mem_cons, List.not_mem_nil, or_false] at hu
  subst hu
  exact bats_one hr
end
/-- Where batches end. -/
def endL (l : List Bat) : Int := match l.getLast? with
 | none => 0
 | some b => b.base + b.span
section
variable {K : Nat → Prop} {w : World}
theorem cend_walk (l : List Bat) (v : Value) (w : World) (h : BatsR K w v l) (hb : ∀ b ∈ l, BatOK b) (hl : l.length ≤ 1000) : Calls Tryz.prog 67 #[v] w fun e w' => e = .returned (.int .i64 (endL l)) ∧ Fr (fun _ => False) w w' := by
 obtain ⟨oa, cap, rfl, hk⟩ := h
 rcases List.eq_nil_or_concat l with rfl | ⟨l0, b, rfl⟩
 ·clear hk
  go_enter Tryz.func67, Tryz.ntmps67
  go_wp2_with fail
  go_ret
  exact ⟨rfl, Fr.same w⟩
 ·rw [List.concat_eq_append] at *
  have hbb : (l0 ++ [b])[l0.length]? = some b := by simp
  obtain ⟨A, rv, rfl, hA, hc, hr⟩ := hk _ _ hbb
  have hok := hb b (by simp)
  have hlen : (l0 ++ [b]).length = l0.length + 1 := by simp
  have hE : endL (l0 ++ [b]) = b.base + b.span := by unfold endL; rw [List.getLast?_concat]
  have HE := Lib.hid hE
  have x0 := hok.base0
  have x1 := hok.base1
  have x2 := hok.span0
  have x3 := hok.span1
  obtain ⟨ra, rcap, rfl, -⟩ := hr
  obtain ⟨c0, c1, c2, c3, c4, c5⟩ := hc
  rw [hlen]
  rw [hlen] at hl
  clear hk hbb hok hlen hE hb
  generalize l0.length = n at *
  have FA := Lib.hid ((Fr.same w).alloc (.cells #[.int .i64 b.base, .int .i64 b.span, .int .i64 b.prod, .int .i64 b.epoch, .int .i64 b.seq, .slice ra b.recs.length rcap] 36))
  go_enter Tryz.func67, Tryz.ntmps67
  go_wp2_with fail
  go_ret
  rw [HE.out]
  exact ⟨rfl, FA.out⟩
end
/-- How many batches and records there are. -/
def cntL (l : List Bat) : Nat := (l.map fun b => 1 + b.recs.length).sum
theorem cntL_snoc (l : List Bat) (b : Bat) : cntL (l ++ [b]) = cntL l + (1 + b.recs.length) := by simp [cntL]
theorem cntL_le : ∀ {l : List Bat}, (∀ b ∈ l, b.recs.length ≤ 50) → cntL l ≤ 51 * l.length
 | [], _ => Nat.le_refl _
 | b :: l, h => by
  have ih := cntL_le (l := l) fun x hx => h x (List.mem_cons_of_mem _ hx)
  have h1 := h b List.mem_cons_self
  unfold cntL at ih ⊢
  rw [List.map_cons, List.sum_cons, List.length_cons]
  omega
theorem count_walk (K : Nat → Prop) (l : List Bat) (v : Value) (w : World) (h : BatsR K w v l) (hb : ∀ b ∈ l, b.recs.length ≤ 50) (hl : l.length ≤ 1000) : Calls Tryz.prog 68 #[v] w fun e w' => e = .returned (.int .i64 (cntL l)) ∧ Fr (fun _ => False) w w' := by
 obtain ⟨oa, cap, rfl, hk⟩ := h
 have HK := Lib.hid hk
 have HB := Lib.hid hb
 clear hk hb
 go_enter Tryz.func68, Tryz.ntmps68
 go_wp2_with fail
 go_loopw [2, 7] (fun n i wr => ∃ k : Nat, i = .int .i64 k ∧ n = .int .i64 (cntL (l.take k)) ∧ k ≤ l.length ∧ Fr (fun _ => False) w wr) (fun _ i _ => l.length - (intOf i).toNat)
 case atStart => exact ⟨0, rfl, rfl, Nat.zero_le _, Fr.same _⟩
 case round =>
  obtain ⟨k, rfl, rfl, hkl, hf⟩ := hrel
  have F := Lib.hid hf
  clear hf
  rcases Nat.lt_or_ge k l.length with hlt | hge
  ·obtain ⟨b, hb⟩ := get_of_lt hlt
   obtain ⟨A, rv, rfl, hA, hc, hr⟩ := HK.out k b hb
   obtain ⟨c0, c1, c2, c3, c4, c5⟩ := hc.to (F.out.block _ hc.lt fun h => h)
   obtain ⟨ra, rcap, rfl, -⟩ := hr
   have hsn := take_snoc' hb
   have hle := cntL_le (l := l.take k) fun x hx => HB.out x (List.mem_of_mem_take hx)
   have htl : (l.take k).length ≤ 1000 := by rw [List.length_take]; omega
   have hrl := HB.out b (List.mem_of_getElem? hb)
   have HSN := Lib.hid hsn
   have FA := Lib.hid (F.out.alloc (.cells #[.int .i64 b.base, .int .i64 b.span, .int .i64 b.prod, .int .i64 b.epoch, .int .i64 b.seq, .slice ra b.recs.length rcap] 36))
   clear hb hc hsn
   go_wp2_with fail
   go_roundw
   case rel => exact ⟨k + 1, by go_num, by rw [HSN.out, cntL_snoc]; go_num, hlt, FA.out⟩
   case measure => simp [intOf]; omega
  ·obtain rfl : k = l.length := by omega
   go_wp2_with fail
   go_ret
   rw [List.take_length]
   exact ⟨rfl, F.out⟩
end Go.Proofs.YtdlnafhhkpklmaaGreatDoor
