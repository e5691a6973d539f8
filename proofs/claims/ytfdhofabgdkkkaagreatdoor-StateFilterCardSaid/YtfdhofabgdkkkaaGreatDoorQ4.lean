/- Slices of headers, records, batches that the call owns. -/
import Derived.Test.YtfdhofabgdkkkaaGreatDoorQ3
import Derived.Test.YtfdhofabgdkkkaaGreatDoorChecked
import Derived.Lib.Hide
import Derived.Shelf.Strings.Builder1
import Derived.Shelf.Small.Bits
import Derived.Shelf.Small.Wraps
import Derived.Shelf.Strings.BuilderF
import Derived.Shelf.Strings.BuilderK
import Derived.Shelf.Strconv.Itoa0
import Derived.Shelf.Strings.Prefix
import Derived.Shelf.Unicode.Decode
import Derived.Shelf.Unicode.DecodeSlow
import Derived.Shelf.Unicode.DecodeAny
import Derived.Shelf.Strings.BuilderCap
import Derived.Shelf.Slices.Turned
import Derived.Ground.Names2Prog
import Derived.Shelf.Slices.Clone
import Derived.Shelf.Slices.SearchI
import Derived.Shelf.Slices.Empties
import Derived.Ground.SlgnProg
import Derived.Shelf.SlicesE.Clone
import Derived.Test.YtfdhofabgdkkkaaGreatDoorProg
namespace Go.Proofs.YtfdhofabgdkkkaaGreatDoor
open Go.RowKit Go.Fm
set_option linter.unusedVariables false
set_option linter.unusedSimpArgs false
theorem add_lit (g k : Nat) : (⟨g, 0, none⟩ : Addr).add k = ⟨g, k, none⟩ := by
 unfold Addr.add
 split
 ·rename_i h0; rw [h0]
 ·simp
theorem add_add (a : Addr) (i j : Nat) (hj : 0 < j) : a.add (i + j) = ⟨(a.add i).block, (a.add i).off + j, none⟩ := by
 unfold Addr.add
 rw [if_neg (by omega)]
 split
 ·rename_i h0; subst h0; simp
 ·simp [Nat.add_assoc]
theorem lit_off (g i j : Nat) : (⟨((⟨g, 0, none⟩ : Addr).add i).block, ((⟨g, 0, none⟩ : Addr).add i).off + j, none⟩ : Addr) = ⟨g, i + j, none⟩ := by rw [add_lit]
/-- One row of cells behind another: the k-th thing's j-th cell. -/
theorem flat_get {α : Type} (f : α → List Value) (n : Nat) (hn : ∀ x, (f x).length = n) : ∀ {l : List α} {k : Nat} {x : α} {j : Nat}, l[k]? = some x → j < n → (l.flatMap f)[k * n + j]? = (f x)[j]?
 | [], k, x, j, h, _ => by simp at h
 | a :: l, 0, x, j, h, hj => by
  simp at h; subst h
  rw [List.flatMap_cons, List.getElem?_append_left (by rw [hn]; omega)]
  simp
 | a :: l, k + 1, x, j, h, hj => by
  rw [List.flatMap_cons, List.getElem?_append_right (by rw [hn, Nat.succ_mul]; omega), hn, show (k + 1) * n + j - n = k * n + j by rw [Nat.succ_mul]; omega]
  exact flat_get f n hn (by simpa using h) hj
theorem flat_len {α : Type} (f : α → List Value) (n : Nat) (hn : ∀ x, (f x).length = n) : ∀ l : List α, (l.flatMap f).length = l.length * n
 | [] => by simp
 | a :: l => by rw [List.flatMap_cons, List.length_append, hn, flat_len f n hn l, List.length_cons, Nat.succ_mul]; omega
/-- .. and back: each cell is one of some thing's. -/
theorem flat_of {α : Type} (f : α → List Value) (n : Nat) (h0 : 0 < n) (hn : ∀ x, (f x).length = n) {l : List α} {j : Nat} {u : Value} (h : (l.flatMap f)[j]? = some u) :
  ∃ x, l[j / n]? = some x ∧ (f x)[j % n]? = some u := by
 have hlt := (List.getElem?_eq_some_iff.1 h).1
 rw [flat_len f n hn, Nat.mul_comm] at hlt
 have hk : j / n < l.length := Nat.div_lt_of_lt_mul hlt
 refine ⟨l[j / n], List.getElem?_eq_getElem hk, ?_⟩
 have := flat_get f n hn (List.getElem?_eq_getElem hk) (Nat.mod_lt j h0)
 rw [← this, Nat.mul_comm, Nat.div_add_mod]
 exact h
def hdrCells (h : Hdr) : List Value := [.string h.key, .string h.val]
def recPair (z : Rec × Value) : List Value := recCells z.1 z.2
def batPair (z : Bat × Value) : List Value := batCells z.1 z.2
theorem hdr_n (h : Hdr) : (hdrCells h).length = 2 := rfl
theorem rec_n (z : Rec × Value) : (recPair z).length = 7 := rfl
theorem bat_n (z : Bat × Value) : (batPair z).length = 6 := rfl
theorem info55 : (Tryz.prog.info? 97).map (fun i => (i.zero, i.size, i.bytes)) = some (some (.agg #[.string ByteArray.empty, .string ByteArray.empty]), 2, 32) := by kernel_rfl
theorem info39 : (Tryz.prog.info? 95).map (fun i => (i.zero, i.size, i.bytes)) = some (some (.agg #[.int .i64 0, .int .i64 0, .bool false, .string ByteArray.empty, .bool false, .string ByteArray.empty, .slice none 0 0]), 7, 88) := by kernel_rfl
theorem info29 : (Tryz.prog.info? 35).map (fun i => (i.zero, i.size, i.bytes)) = some (some (.agg #[.int .i64 0, .int .i64 0, .int .i64 0, .int .i64 0, .int .i64 0, .slice none 0 0]), 6, 64) := by kernel_rfl
/-- The cells of a row that is owned. -/
theorem own_at {w : World} {B : Nat} {e : TypeId} {s n : Nat} {v : Value} {xs : List Value} (h : w.ownsRow B e s v n xs) :
  ∃ oa cap, v = .slice oa n cap ∧ (0 < n → ∃ g, oa = some ⟨g, 0, none⟩ ∧ v.ownBlock = some g ∧ B ≤ g ∧ ∀ k u, xs[k]? = some u → w.cell? ⟨g, k, none⟩ = some u) := by
 obtain ⟨a, cap, hv, h1, h2⟩ := own_slice h
 refine ⟨a, cap, hv, fun hn => ?_⟩
 cases a with
 | none => have := (h2 rfl).1; omega
 | some a =>
  obtain ⟨h3, h4⟩ := h1 a rfl
  refine ⟨a.block, by rw [← h3], h4, (own_lt h h4).1, fun k u hu => ?_⟩
  have := h.cells h4 k u hu
  rw [add_lit] at this
  exact this
theorem hds_cells {K : Nat → Prop} {w : World} {a : Addr} {n cap : Nat} {hs : List Hdr} (h : HdsR K w (.slice (some a) n cap) hs) :
  n = hs.length ∧ ∀ j u, (hs.flatMap hdrCells)[j]? = some u → w.cell? (a.add j) = some u := by
 obtain ⟨oa, cap', hv, h⟩ := h
 injection hv with e1 e2 e3
 subst e1
 refine ⟨e2, fun j u hu => ?_⟩
 obtain ⟨x, hx, hu⟩ := flat_of hdrCells 2 (by omega) hdr_n hu
 obtain ⟨a', ha, hK, c0, c1⟩ := h _ x hx
 injection ha with ha
 subst ha
 have hd := Nat.div_add_mod j 2
 rcases Nat.mod_two_eq_zero_or_one j with h0 | h1
 ·rw [h0] at hu hd
  rw [show j = j / 2 * 2 by omega]
  simp only [hdrCells, List.getElem?_cons_zero, Option.some.injEq] at hu
  subst hu
  exact c0
 ·rw [h1] at hu hd
  rw [show j = j / 2 * 2 + 1 by omega, add_add _ _ _ (by omega)]
  simp only [hdrCells, List.getElem?_cons_succ, List.getElem?_cons_zero, Option.some.injEq] at hu
  subst hu
  exact c1
theorem hds_of_own {B : Nat} {w : World} {v : Value} {n : Nat} {hs : List Hdr} (h : w.ownsRow B 97 2 v n (hs.flatMap hdrCells)) (hn : n = hs.length) : HdsR (fun b => B ≤ b ∧ v.ownBlock = some b) w v hs := by
 obtain ⟨oa, cap, hv, hc⟩ := own_at h
 subst hn
 refine ⟨oa, cap, hv, fun k x hx => ?_⟩
 obtain ⟨g, rfl, ho, hB, hc⟩ := hc (by have := (List.getElem?_eq_some_iff.1 hx).1; omega)
 have g0 := flat_get hdrCells 2 hdr_n hx (show 0 < 2 by omega)
 have g1 := flat_get hdrCells 2 hdr_n hx (show 1 < 2 by omega)
 refine ⟨_, rfl, ⟨hB, ho⟩, ?_, ?_⟩
 ·rw [add_lit]; exact hc _ _ g0
 ·rw [lit_off]; exact hc _ _ g1
/-- A slice of records that the call owns; K: the blocks that its headers may lie in. -/
def OwnRecs (K : Nat → Prop) (B : Nat) (w : World) (v : Value) (rs : List Rec) : Prop :=
 ∃ zs : List (Rec × Value), zs.map (·.1) = rs ∧ w.ownsRow B 95 7 v rs.length (zs.flatMap recPair) ∧ ∀ z ∈ zs, HdsR (fun b => K b ∧ v.ownBlock ≠ some b) w z.2 z.1.hs
def OwnBats (K : Nat → Prop) (B : Nat) (w : World) (v : Value) (bs : List Bat) : Prop :=
 ∃ zs : List (Bat × Value), zs.map (·.1) = bs ∧ w.ownsRow B 35 6 v bs.length (zs.flatMap batPair) ∧ ∀ z ∈ zs, RecsR (fun b => K b ∧ v.ownBlock ≠ some b) w z.2 z.1.recs
theorem OwnRecs.nil (K : Nat → Prop) (B : Nat) (w : World) : OwnRecs K B w (.slice none 0 0) [] := ⟨[], rfl, World.ownsRow_nil _ _ _ _, fun z hz => by cases hz⟩
theorem OwnBats.nil (K : Nat → Prop) (B : Nat) (w : World) : OwnBats K B w (.slice none 0 0) [] := ⟨[], rfl, World.ownsRow_nil _ _ _ _, fun z hz => by cases hz⟩
section
variable {K K' : Nat → Prop} {B : Nat} {w w' : World} {v v' : Value}
theorem OwnRecs.lt {rs : List Rec} (h : OwnRecs K B w v rs) {k : Nat} (hk : v.ownBlock = some k) : B ≤ k ∧ k < w.heap.size := by
 obtain ⟨zs, h1, h2, h3⟩ := h
 exact own_lt h2 hk
theorem OwnBats.lt {rs : List Bat} (h : OwnBats K B w v rs) {k : Nat} (hk : v.ownBlock = some k) : B ≤ k ∧ k < w.heap.size := by
 obtain ⟨zs, h1, h2, h3⟩ := h
 exact own_lt h2 hk
theorem OwnRecs.slice {rs : List Rec} (h : OwnRecs K B w v rs) : ∃ oa cap, v = .slice oa rs.length cap := by
 obtain ⟨zs, h1, h2, h3⟩ := h
 obtain ⟨oa, cap, hv, -⟩ := own_at h2
 exact ⟨oa, cap, hv⟩
theorem OwnBats.slice {rs : List Bat} (h : OwnBats K B w v rs) : ∃ oa cap, v = .slice oa rs.length cap := by
 obtain ⟨zs, h1, h2, h3⟩ := h
 obtain ⟨oa, cap, hv, -⟩ := own_at h2
 exact ⟨oa, cap, hv⟩
theorem OwnRecs.old {rs : List Rec} (h : OwnRecs K B w v rs) (hf : Fr (fun _ => False) w w') : OwnRecs K B w' v rs := by
 obtain ⟨zs, h1, h2, h3⟩ := h
 exact ⟨zs, h1, own_eq h2 fun k hk => hf.block k (own_lt h2 hk).2 fun h => h, fun z hz => (h3 z hz).old hf⟩
theorem OwnBats.old {rs : List Bat} (h : OwnBats K B w v rs) (hf : Fr (fun _ => False) w w') : OwnBats K B w' v rs := by
 obtain ⟨zs, h1, h2, h3⟩ := h
 exact ⟨zs, h1, own_eq h2 fun k hk => hf.block k (own_lt h2 hk).2 fun h => h, fun z hz => (h3 z hz).old hf⟩
/-- .. while another block of the call is written. -/
theorem OwnBats.fr {rs : List Bat} {S : Nat → Prop} (h : OwnBats K B w v rs) (hf : Fr S w w') (hK : ∀ k, K k → ¬ S k) (ho : ∀ k, v.ownBlock = some k → ¬ S k) : OwnBats K B w' v rs := by
 obtain ⟨zs, h1, h2, h3⟩ := h
 exact ⟨zs, h1, own_eq h2 fun k hk => hf.block k (own_lt h2 hk).2 (ho k hk), fun z hz => (h3 z hz).fr hf fun k hk => hK k hk.1⟩
theorem OwnRecs.reads {rs : List Rec} (h : OwnRecs K B w v rs) (h1 : ∀ b, B ≤ b → b < w.heap.size → K' b) (h2 : ∀ b, K b → b < w.heap.size → K' b) : RecsR K' w v rs := by
 obtain ⟨zs, rfl, ho, hz⟩ := h
 obtain ⟨oa, cap, hv, hc⟩ := own_at ho
 refine ⟨oa, cap, hv, fun k x hx => ?_⟩
 obtain ⟨g, rfl, hb, hB, hc⟩ := hc (by have := (List.getElem?_eq_some_iff.1 hx).1; omega)
 rw [List.getElem?_map] at hx
 obtain ⟨z, hz1, rfl⟩ := Option.map_eq_some_iff.1 hx
 have hget : ∀ j, j < 7 → (zs.flatMap recPair)[k * 7 + j]? = (recPair z)[j]? := fun j hj => flat_get recPair 7 rec_n hz1 hj
 refine ⟨_, z.2, rfl, h1 g hB (own_lt ho hb).2, ⟨?_, ?_, ?_, ?_, ?_, ?_, ?_⟩, (hz z (List.mem_of_getElem? hz1)).mono fun b hb hl => h2 b hb.1 hl⟩
 ·rw [add_lit]; exact hc _ _ (hget 0 (by omega))
 ·rw [lit_off]; exact hc _ _ (hget 1 (by omega))
 ·rw [lit_off]; exact hc _ _ (hget 2 (by omega))
 ·rw [lit_off]; exact hc _ _ (hget 3 (by omega))
 ·rw [lit_off]; exact hc _ _ (hget 4 (by omega))
 ·rw [lit_off]; exact hc _ _ (hget 5 (by omega))
 ·rw [lit_off]; exact hc _ _ (hget 6 (by omega))
theorem OwnBats.reads {rs : List Bat} (h : OwnBats K B w v rs) (h1 : ∀ b, B ≤ b → b < w.heap.size → K' b) (h2 : ∀ b, K b → b < w.heap.size → K' b) : BatsR K' w v rs := by
 obtain ⟨zs, rfl, ho, hz⟩ := h
 obtain ⟨oa, cap, hv, hc⟩ := own_at ho
 refine ⟨oa, cap, hv, fun k x hx => ?_⟩
 obtain ⟨g, rfl, hb, hB, hc⟩ := hc (by have := (List.getElem?_eq_some_iff.1 hx).1; omega)
 rw [List.getElem?_map] at hx
 obtain ⟨z, hz1, rfl⟩ := Option.map_eq_some_iff.1 hx
 have hget : ∀ j, j < 6 → (zs.flatMap batPair)[k * 6 + j]? = (batPair z)[j]? := fun j hj => flat_get batPair 6 bat_n hz1 hj
 refine ⟨_, z.2, rfl, h1 g hB (own_lt ho hb).2, ⟨?_, ?_, ?_, ?_, ?_, ?_⟩, (hz z (List.mem_of_getElem? hz1)).mono fun b hb hl => h2 b hb.1 hl⟩
 ·rw [add_lit]; exact hc _ _ (hget 0 (by omega))
 ·rw [lit_off]; exact hc _ _ (hget 1 (by omega))
 ·rw [lit_off]; exact hc _ _ (hget 2 (by omega))
 ·rw [lit_off]; exact hc _ _ (hget 3 (by omega))
 ·rw [lit_off]; exact hc _ _ (hget 4 (by omega))
 ·rw [lit_off]; exact hc _ _ (hget 5 (by omega))
theorem OwnRecs.push {rs : List Rec} {zs : List (Rec × Value)} (e : zs.map (·.1) = rs) (ho : w.ownsRow B 95 7 v rs.length (zs.flatMap recPair)) (hz : ∀ z ∈ zs, HdsR (fun b => K b ∧ v.ownBlock ≠ some b) w z.2 z.1.hs) {r : Rec} {hv : Value} (hr : HdsR (fun b => K b ∧ v.ownBlock ≠ some b) w hv r.hs)
  (h2 : w'.ownsRow B 95 7 v' (rs.length + 1) (zs.flatMap recPair ++ recCells r hv)) (hg : w.grownBy w' v.ownBlock) (hb : v'.ownBlock = v.ownBlock ∨ v'.ownBlock = some w.heap.size) : OwnRecs K B w' v' (rs ++ [r]) := by
 have hto : ∀ b, (K b ∧ v.ownBlock ≠ some b) → b < w.heap.size → (K b ∧ v'.ownBlock ≠ some b) ∧ w'.heap[b]? = w.heap[b]? := fun b hb1 hl => by
  refine ⟨⟨hb1.1, ?_⟩, hg.block b hl fun e => hb1.2 e.symm⟩
  rcases hb with h | h
  ·rw [h]; exact hb1.2
  ·rw [h]; intro e; injection e with e; omega
 refine ⟨zs ++ [(r, hv)], by rw [List.map_append, e]; rfl, ?_, fun z hz1 => ?_⟩
 ·rw [List.length_append, List.flatMap_append]
  simpa [recPair] using h2
 ·rcases List.mem_append.1 hz1 with h | h
  ·exact (hz z h).to hto
  ·simp at h; subst h; exact hr.to hto
theorem OwnBats.push {rs : List Bat} {zs : List (Bat × Value)} (e : zs.map (·.1) = rs) (ho : w.ownsRow B 35 6 v rs.length (zs.flatMap batPair)) (hz : ∀ z ∈ zs, RecsR (fun b => K b ∧ v.ownBlock ≠ some b) w z.2 z.1.recs) {r : Bat} {hv : Value} (hr : RecsR (fun b => K b ∧ v.ownBlock ≠ some b) w hv r.recs)
  (h2 : w'.ownsRow B 35 6 v' (rs.length + 1) (zs.flatMap batPair ++ batCells r hv)) (hg : w.grownBy w' v.ownBlock) (hb : v'.ownBlock = v.ownBlock ∨ v'.ownBlock = some w.heap.size) : OwnBats K B w' v' (rs ++ [r]) := by
 have hto : ∀ b, (K b ∧ v.ownBlock ≠ some b) → b < w.heap.size → (K b ∧ v'.ownBlock ≠ some b) ∧ w'.heap[b]? = w.heap[b]? := fun b hb1 hl => by
  refine ⟨⟨hb1.1, ?_⟩, hg.block b hl fun e => hb1.2 e.symm⟩
  rcases hb with h | h
  ·rw [h]; exact hb1.2
  ·rw [h]; intro e; injection e with e; omega
 refine ⟨zs ++ [(r, hv)], by rw [List.map_append, e]; rfl, ?_, fun z hz1 => ?_⟩
 ·rw [List.length_append, List.flatMap_append]
  simpa [batPair] using h2
 ·rcases List.mem_append.1 hz1 with h | h
  ·exact (hz z h).to hto
  ·simp at h; subst h; exact hr.to hto
end
section
variable {ops : Array Oper} {rest : List Oper} {o : Oper} {a : Act} {Q : Exit → Act → World → Prop}
/-- append of one record. -/
theorem wpList_push_rec (w : World) (hgd : o.guard = none) (s x : Operand) (ho : o.op = .call { callee := .builtin .append, args := #[s, x], argTypes := #[33, 33] })
  (K : Nat → Prop) (B : Nat) (v : Value) (rs : List Rec) (hs : a.eval s = v) (hown : OwnRecs K B w v rs) (g c : Nat) (hx : a.eval x = .slice (some ⟨g, 0, none⟩) 1 c) (r : Rec) (hv : Value)
  (hcells : ∀ j, w.cell? ⟨g, j, none⟩ = (recCells r hv).toArray[j]?) (hr : HdsR (fun b => K b ∧ v.ownBlock ≠ some b) w hv r.hs) (h1c : hv.oneCell' = true) (hlen : rs.length < 1000000) (hB : B ≤ w.heap.size)
  (h : ∀ v' w', OwnRecs K B w' v' (rs ++ [r]) → w.grownBy w' v.ownBlock → (v'.ownBlock = v.ownBlock ∨ v'.ownBlock = some w.heap.size) → wpList Tryz.prog ops Q rest (a.put o.dst v') w') : wpList Tryz.prog ops Q (o :: rest) a w := by
 obtain ⟨i, hi, hz, hs39, hb39⟩ := info_parts info39
 obtain ⟨zs, e, hw, hzs⟩ := hown
 refine wpList_append_own2 w hgd s x 33 ho B 95 i _ 7 88 Tryz.underlying33 hi hz hs39 hb39 rfl (by decide) v rs.length (zs.flatMap recPair) hs hw ⟨g, 0, none⟩ 1 c (recCells r hv) hx rfl ?_ ?_ (by unfold maxLen; omega) (by omega) hB fun v' w' h1 h2 h3 => h v' w' (OwnRecs.push e hw hzs hr h1 h2 h3) h2 h3
 ·intro j u hj
  rw [add_lit, hcells j]
  simpa using hj
 ·intro u hu
  simp only [recCells, List.mem_cons, List.not_mem_nil, or_false] at hu
  rcases hu with rfl | rfl | rfl | rfl | rfl | rfl | rfl <;> first | rfl | exact h1c
/-- append of one batch. -/
theorem wpList_push_bat (w : World) (hgd : o.guard = none) (s x : Operand) (ho : o.op = .call { callee := .builtin .append, args := #[s, x], argTypes := #[22, 22] })
  (K : Nat → Prop) (B : Nat) (v : Value) (rs : List Bat) (hs : a.eval s = v) (hown : OwnBats K B w v rs) (g c : Nat) (hx : a.eval x = .slice (some ⟨g, 0, none⟩) 1 c) (r : Bat) (hv : Value)
  (hcells : ∀ j, w.cell? ⟨g, j, none⟩ = (batCells r hv).toArray[j]?) (hr : RecsR (fun b => K b ∧ v.ownBlock ≠ some b) w hv r.recs) (h1c : hv.oneCell' = true) (hlen : rs.length < 1000000) (hB : B ≤ w.heap.size)
  (h : ∀ v' w', OwnBats K B w' v' (rs ++ [r]) → w.grownBy w' v.ownBlock → (v'.ownBlock = v.ownBlock ∨ v'.ownBlock = some w.heap.size) → wpList Tryz.prog ops Q rest (a.put o.dst v') w') : wpList Tryz.prog ops Q (o :: rest) a w := by
 obtain ⟨i, hi, hz, hs39, hb39⟩ := info_parts info29
 obtain ⟨zs, e, hw, hzs⟩ := hown
 refine wpList_append_own2 w hgd s x 22 ho B 35 i _ 6 64 Tryz.underlying22 hi hz hs39 hb39 rfl (by decide) v rs.length (zs.flatMap batPair) hs hw ⟨g, 0, none⟩ 1 c (batCells r hv) hx rfl ?_ ?_ (by unfold maxLen; omega) (by omega) hB fun v' w' h1 h2 h3 => h v' w' (OwnBats.push e hw hzs hr h1 h2 h3) h2 h3
 ·intro j u hj
  rw [add_lit, hcells j]
  simpa using hj
 ·intro u hu
  simp only [batCells, List.mem_cons, List.not_mem_nil, or_false] at hu
  rcases hu with rfl | rfl | rfl | rfl | rfl | rfl <;> first | rfl | exact h1c
end
end Go.Proofs.YtfdhofabgdkkkaaGreatDoor
/-
 DERIVED: THE SHELF's CONTRACTS AT THIS DUMP, IN PLAIN WORDS (tools/lay-plain.mjs out of 'TryzShelf.lean', which tools/lay-shelf.mjs wrote): THE SAME DECLARATIONS UNDER THE SAME NAMES: 'import', 'namespace', 'open', 'def', 'theorem' AND NOTHING ELSE: no command of the shelf's: FOR A HAND-IN. Each laying: the table of numbers ('.._ren') and one theorem, a field a fact of the dump's own or the kernel's comparison; each contract: ONE APPLICATION.
-/
namespace Go.Proofs
open Go.Shelf
def Tryz.lays169_ren : Go.Shelf.Ren := ⟨fun | 169 => 246 | n => n, fun | 70 => 356 | 9 => 9 | 0 => 0 | 72 => 358 | 37 => 305 | 127 => 393 | 3 => 3 | 5 => 5 | n => n, fun | n => n⟩
theorem Tryz.lays169 : Go.Proofs.Lays.n169 Tryz.prog Tryz.lays169_ren := {
 mixed := by kernel_rfl
 f169 := Tryz.func246.trans (congrArg some (by kernel_rfl))
 t0 := Tryz.underlying0
 a0 := Tryz.isAgg0
 z0 := Tryz.sizeOf0
 v0 := Tryz.zeroValue0
 t3 := Tryz.underlying3
 a3 := Tryz.isAgg3
 z3 := Tryz.sizeOf3
 v3 := Tryz.zeroValue3
 t9 := Tryz.underlying9
 a9 := Tryz.isAgg9
 z9 := Tryz.sizeOf9
 v9 := Tryz.zeroValue9
 t37 := Tryz.underlying305
 a37 := Tryz.isAgg305
 z37 := Tryz.sizeOf305
 v37 := Tryz.zeroValue305
 t70 := Tryz.underlying356
 a70 := Tryz.isAgg356
 z70 := Tryz.sizeOf356
 v70 := Tryz.zeroValue356
 t72 := Tryz.underlying358
 a72 := Tryz.isAgg358
 z72 := Tryz.sizeOf358
 v72 := Tryz.zeroValue358
 t127 := Tryz.underlying393
 a127 := Tryz.isAgg393
 z127 := Tryz.sizeOf393
 v127 := Tryz.zeroValue393 }
theorem Tryz.Builder_Extra_169 : Builder.Extra Tryz.prog Tryz.lays169_ren := {
 sizeBuilder := by kernel_rfl
 liesBuilder := by kernel_rfl
 t5 := Tryz.underlying5
 a5 := Tryz.isAgg5
 z5 := Tryz.sizeOf5
 v5 := Tryz.zeroValue5
 infoByte := by kernel_rfl
 cellsByte := by kernel_rfl
 sizeByte := by kernel_rfl
 neB5 := by decide }
open Go.RowKit in
/-- (*strings.Builder).String: "String returns the accumulated string.": WHATEVER THE BUILDER HOLDS. (LAID: no walk: one application.) -/
theorem Tryz.Builder_String_any (B b : Nat) (l : List UInt8) (w : World) (h : Lib.IsBuilder 358 5 B b (Lib.byteCells l) w) (hBw : B ≤ w.heap.size) :
  Calls Tryz.prog 246 #[.pointer (some ⟨b, 0, none⟩)] w fun e w' => e = .returned (.string ⟨l.toArray⟩) ∧ Below B w w' := Any.Builder_String_any Tryz.lays169 Tryz.Builder_Extra_169 B b l w h hBw
def Tryz.lays99_ren : Go.Shelf.Ren := ⟨fun | 99 => 153 | 206 => 216 | n => n, fun | 9 => 9 | 4 => 4 | 3 => 3 | n => n, fun | n => n⟩
theorem Tryz.lays99 : Go.Proofs.Lays.n99 Tryz.prog Tryz.lays99_ren := {
 mixed := by kernel_rfl
 f99 := Tryz.func153.trans (congrArg some (by kernel_rfl))
 f206 := Tryz.func216.trans (congrArg some (by kernel_rfl))
 t3 := Tryz.underlying3
 a3 := Tryz.isAgg3
 z3 := Tryz.sizeOf3
 v3 := Tryz.zeroValue3
 t4 := Tryz.underlying4
 a4 := Tryz.isAgg4
 z4 := Tryz.sizeOf4
 v4 := Tryz.zeroValue4
 t9 := Tryz.underlying9
 a9 := Tryz.isAgg9
 z9 := Tryz.sizeOf9
 v9 := Tryz.zeroValue9 }
open Go.RowKit Go.Lib in
/-- strings.HasPrefix: "HasPrefix reports whether the string s begins with prefix.": IT RETURNS 'Lib.hasPrefix s prefix'; the world is as it was. (LAID: no walk: one application.) -/
theorem Tryz.strings_HasPrefix (s p : ByteArray) (w : World) :
  Calls Tryz.prog 153 #[.string s, .string p] w fun e w' => e = .returned (.bool (Lib.hasPrefix s.data.toList p.data.toList)) ∧ w' = w := Any.strings_HasPrefix Tryz.lays99 s p w
def Tryz.lays197_ren : Go.Shelf.Ren := ⟨fun | 197 => 264 | 260 => 296 | n => n, fun | 9 => 9 | 21 => 21 | 3 => 3 | 4 => 4 | 5 => 5 | 105 => 376 | 119 => 410 | 0 => 0 | 46 => 309 | 139 => 413 | 138 => 412 | n => n, fun | 3 => 1 | 4 => 2 | n => n⟩
theorem Tryz.lays197 : Go.Proofs.Lays.n197 Tryz.prog Tryz.lays197_ren := {
 mixed := by kernel_rfl
 f197 := Tryz.func264.trans (congrArg some (by kernel_rfl))
 f260 := Tryz.func296.trans (congrArg some (by kernel_rfl))
 t0 := Tryz.underlying0
 a0 := Tryz.isAgg0
 z0 := Tryz.sizeOf0
 v0 := Tryz.zeroValue0
 t3 := Tryz.underlying3
 a3 := Tryz.isAgg3
 z3 := Tryz.sizeOf3
 v3 := Tryz.zeroValue3
 t4 := Tryz.underlying4
 a4 := Tryz.isAgg4
 z4 := Tryz.sizeOf4
 v4 := Tryz.zeroValue4
 t5 := Tryz.underlying5
 a5 := Tryz.isAgg5
 z5 := Tryz.sizeOf5
 v5 := Tryz.zeroValue5
 t9 := Tryz.underlying9
 a9 := Tryz.isAgg9
 z9 := Tryz.sizeOf9
 v9 := Tryz.zeroValue9
 t21 := Tryz.underlying21
 a21 := Tryz.isAgg21
 z21 := Tryz.sizeOf21
 v21 := Tryz.zeroValue21
 t46 := Tryz.underlying309
 a46 := Tryz.isAgg309
 z46 := Tryz.sizeOf309
 v46 := Tryz.zeroValue309
 t105 := Tryz.underlying376
 a105 := Tryz.isAgg376
 z105 := Tryz.sizeOf376
 v105 := Tryz.zeroValue376
 t119 := Tryz.underlying410
 a119 := Tryz.isAgg410
 z119 := Tryz.sizeOf410
 t138 := Tryz.underlying412
 a138 := Tryz.isAgg412
 z138 := Tryz.sizeOf412
 v138 := Tryz.zeroValue412
 t139 := Tryz.underlying413
 a139 := Tryz.isAgg413
 z139 := Tryz.sizeOf413
 v139 := Tryz.zeroValue413
 g3 := by kernel_rfl
 g4 := by kernel_rfl }
def Tryz.lays260_ren : Go.Shelf.Ren := ⟨fun | 260 => 296 | n => n, fun | 9 => 9 | 21 => 21 | 3 => 3 | 4 => 4 | 5 => 5 | 119 => 410 | 0 => 0 | 46 => 309 | 139 => 413 | 138 => 412 | n => n, fun | 3 => 1 | 4 => 2 | n => n⟩
theorem Tryz.lays260 : Go.Proofs.Lays.n260 Tryz.prog Tryz.lays260_ren := {
 mixed := by kernel_rfl
 f260 := Tryz.func296.trans (congrArg some (by kernel_rfl))
 t0 := Tryz.underlying0
 a0 := Tryz.isAgg0
 z0 := Tryz.sizeOf0
 v0 := Tryz.zeroValue0
 t3 := Tryz.underlying3
 a3 := Tryz.isAgg3
 z3 := Tryz.sizeOf3
 v3 := Tryz.zeroValue3
 t4 := Tryz.underlying4
 a4 := Tryz.isAgg4
 z4 := Tryz.sizeOf4
 v4 := Tryz.zeroValue4
 t5 := Tryz.underlying5
 a5 := Tryz.isAgg5
 z5 := Tryz.sizeOf5
 v5 := Tryz.zeroValue5
 t9 := Tryz.underlying9
 a9 := Tryz.isAgg9
 z9 := Tryz.sizeOf9
 v9 := Tryz.zeroValue9
 t21 := Tryz.underlying21
 a21 := Tryz.isAgg21
 z21 := Tryz.sizeOf21
 v21 := Tryz.zeroValue21
 t46 := Tryz.underlying309
 a46 := Tryz.isAgg309
 z46 := Tryz.sizeOf309
 v46 := Tryz.zeroValue309
 t119 := Tryz.underlying410
 a119 := Tryz.isAgg410
 z119 := Tryz.sizeOf410
 t138 := Tryz.underlying412
 a138 := Tryz.isAgg412
 z138 := Tryz.sizeOf412
 v138 := Tryz.zeroValue412
 t139 := Tryz.underlying413
 a139 := Tryz.isAgg413
 z139 := Tryz.sizeOf413
 v139 := Tryz.zeroValue413
 g3 := by kernel_rfl
 g4 := by kernel_rfl }
open Go.RowKit Go.Lib in
/-- **unicode/utf8.DecodeRuneInString AT EVERY STRING.** (LAID: no walk: one application.) -/
theorem Tryz.utf8_DecodeRuneInString (s : ByteArray) (w : World) (hT : Lib.Utf8Tabs 1 2 w) :
  Calls Tryz.prog 264 #[.string s] w fun e w' => e = .returned (.tuple #[.int .i32 (Lib.decodeGo s).1, .int .i64 (Lib.decodeGo s).2]) ∧ Below w.heap.size w w' := Any.utf8_DecodeRuneInString Tryz.lays197 s w hT
end Go.Proofs
