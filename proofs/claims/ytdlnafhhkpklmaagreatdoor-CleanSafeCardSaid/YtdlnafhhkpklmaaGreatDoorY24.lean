/- A segment's batches with their places: what a segment is, laws of its list. -/
import Derived.Test.YtdlnafhhkpklmaaGreatDoorY17
import Derived.Test.YtdlnafhhkpklmaaGreatDoorY22
import Derived.Test.YtdlnafhhkpklmaaGreatDoorY23
namespace Go.Proofs.YtdlnafhhkpklmaaGreatDoor
open Go.RowKit Go.Fm Go.BigFrame Go.Shelf Go.Maps
set_option linter.unusedVariables false
set_option linter.unusedSimpArgs false
structure Kep where
 b : Bat
 pos : Nat
 n : Nat
def kepCells (k : Kep) (rv : Value) : List Value := batCells k.b rv ++ [.int .i64 k.pos, .int .i64 k.n]
def kepV (k : Kep) (rv : Value) : Value := .agg #[.int .i64 k.b.base, .int .i64 k.b.span, .int .i64 k.b.prod, .int .i64 k.b.epoch, .int .i64 k.b.seq, rv, .int .i64 k.pos, .int .i64 k.n]
def kepPair (z : Kep × Value) : List Value := kepCells z.1 z.2
theorem kep_n (z : Kep × Value) : (kepPair z).length = 8 := rfl
def bsz (b : Bat) : Nat := (batS b).size
def keps : Nat → List Bat → List Kep
 | _, [] => []
 | p, b :: l => ⟨b, p, bsz b⟩ :: keps (p + bsz b) l
def sumB (l : List Bat) : Nat := (l.map bsz).sum
theorem sumB_snoc (l : List Bat) (b : Bat) : sumB (l ++ [b]) = sumB l + bsz b := by simp [sumB]
theorem sumB_cons (l : List Bat) (b : Bat) : sumB (b :: l) = bsz b + sumB l := by simp [sumB]
theorem keps_len : ∀ (l : List Bat) (p : Nat), (keps p l).length = l.length
 | [], _ => rfl
 | b :: l, p => by simp [keps, keps_len l]
theorem keps_snoc : ∀ (l : List Bat) (p : Nat) (b : Bat), keps p (l ++ [b]) = keps p l ++ [⟨b, p + sumB l, bsz b⟩]
 | [], p, b => by simp [keps, sumB]
 | a :: l, p, b => by simp [keps, keps_snoc l, sumB_cons, Nat.add_assoc]
theorem keps_get : ∀ {l : List Bat} {p k : Nat} {b : Bat}, l[k]? = some b → (keps p l)[k]? = some ⟨b, p + sumB (l.take k), bsz b⟩
 | [], _, _, _, h => by simp at h
 | a :: l, p, 0, b, h => by simp at h; subst h; simp [keps, sumB]
 | a :: l, p, k + 1, b, h => by
  have := keps_get (l := l) (p := p + bsz a) (k := k) (b := b) (by simpa using h)
  simp [keps, this, sumB_cons, Nat.add_assoc]
theorem info66 : (Tryz.prog.info? 152).map (fun i => (i.zero, i.size, i.bytes)) = some (some (.agg #[.int .i64 0, .int .i64 0, .int .i64 0, .int .i64 0, .int .i64 0, .slice none 0 0, .int .i64 0, .int .i64 0]), 8, 80) := by kernel_rfl
/-- A slice of kept batches that the call owns; K: the blocks that their records may lie in. -/
def OwnKeps (K : Nat → Prop) (B : Nat) (w : World) (v : Value) (ks : List Kep) : Prop :=
 ∃ zs : List (Kep × Value), zs.map (·.1) = ks ∧ w.ownsRow B 152 8 v ks.length (zs.flatMap kepPair) ∧ ∀ z ∈ zs, RecsR (fun b => K b ∧ v.ownBlock ≠ some b) w z.2 z.1.b.recs
theorem OwnKeps.nil (K : Nat → Prop) (B : Nat) (w : World) : OwnKeps K B w (.slice none 0 0) [] := ⟨[], rfl, World.ownsRow_nil _ _ _ _, fun z hz => by cases hz⟩
section
variable {K K' : Nat → Prop} {B : Nat} {w w' : World} {v v' : Value}
theorem OwnKeps.lt {rs : List Kep} (h : OwnKeps K B w v rs) {k : Nat} (hk : v.ownBlock = some k) : B ≤ k ∧ k < w.heap.size := by
 obtain ⟨zs, h1, h2, h3⟩ := h
 exact own_lt h2 hk
theorem OwnKeps.slice {rs : List Kep} (h : OwnKeps K B w v rs) : ∃ oa cap, v = .slice oa rs.length cap := by
 obtain ⟨zs, h1, h2, h3⟩ := h
 obtain ⟨oa, cap, hv, -⟩ := own_at h2
 exact ⟨oa, cap, hv⟩
theorem OwnKeps.fr {rs : List Kep} {S : Nat → Prop} (h : OwnKeps K B w v rs) (hf : Fr S w w') (hK : ∀ k, K k → ¬ S k) (ho : ∀ k, v.ownBlock = some k → ¬ S k) : OwnKeps K B w' v rs := by
 obtain ⟨zs, h1, h2, h3⟩ := h
 exact ⟨zs, h1, own_eq h2 fun k hk => hf.block k (own_lt h2 hk).2 (ho k hk), fun z hz => (h3 z hz).fr hf fun k hk => hK k hk.1⟩
theorem OwnKeps.old {rs : List Kep} (h : OwnKeps K B w v rs) (hf : Fr (fun _ => False) w w') : OwnKeps K B w' v rs := h.fr hf (fun _ _ h => h) fun _ _ h => h
theorem OwnKeps.mono {rs : List Kep} (h : OwnKeps K B w v rs) (hK : ∀ b, K b → b < w.heap.size → K' b) : OwnKeps K' B w v rs := by
 obtain ⟨zs, h1, h2, h3⟩ := h
 exact ⟨zs, h1, h2, fun z hz => (h3 z hz).mono fun b hb hl => ⟨hK b hb.1 hl, hb.2⟩⟩
/-- A kept batch's cells at a place. -/
structure KepAt (w : World) (p : Addr) (r : Kep) (rv : Value) : Prop where
 c0 : w.cell? p = some (.int .i64 r.b.base)
 c1 : w.cell? ⟨p.block, p.off + 1, none⟩ = some (.int .i64 r.b.span)
 c2 : w.cell? ⟨p.block, p.off + 2, none⟩ = some (.int .i64 r.b.prod)
 c3 : w.cell? ⟨p.block, p.off + 3, none⟩ = some (.int .i64 r.b.epoch)
 c4 : w.cell? ⟨p.block, p.off + 4, none⟩ = some (.int .i64 r.b.seq)
 c5 : w.cell? ⟨p.block, p.off + 5, none⟩ = some rv
 c6 : w.cell? ⟨p.block, p.off + 6, none⟩ = some (.int .i64 r.pos)
 c7 : w.cell? ⟨p.block, p.off + 7, none⟩ = some (.int .i64 r.n)
theorem KepAt.lt {p : Addr} {r : Kep} {rv : Value} (h : KepAt w p r rv) : p.block < w.heap.size := World.block_lt_of_cell? w p h.c0
theorem KepAt.to {p : Addr} {r : Kep} {rv : Value} (h : KepAt w p r rv) (hk : w'.heap[p.block]? = w.heap[p.block]?) : KepAt w' p r rv :=
 ⟨cell_keep h.c0 hk, cell_keep h.c1 hk, cell_keep h.c2 hk, cell_keep h.c3 hk, cell_keep h.c4 hk, cell_keep h.c5 hk, cell_keep h.c6 hk, cell_keep h.c7 hk⟩
def KepsR (K : Nat → Prop) (w : World) (v : Value) (ks : List Kep) : Prop :=
 ∃ oa cap, v = .slice oa ks.length cap ∧ ks.length ≤ cap ∧ ∀ k r, ks[k]? = some r → ∃ a rv, oa = some a ∧ K a.block ∧ KepAt w (a.add (k * 8)) r rv ∧ RecsR K w rv r.b.recs
theorem KepsR.to {ks : List Kep} (h : KepsR K w v ks) (hk : ∀ b, K b → b < w.heap.size → K' b ∧ w'.heap[b]? = w.heap[b]?) : KepsR K' w' v ks := by
 obtain ⟨oa, cap, hv, hcap, h⟩ := h
 refine ⟨oa, cap, hv, hcap, fun k x hx => ?_⟩
 obtain ⟨a, u, ha, hK, hc, hh⟩ := h k x hx
 have hl := hc.lt
 rw [add_block] at hl
 obtain ⟨h1, h2⟩ := hk _ hK hl
 exact ⟨a, u, ha, h1, hc.to (by rw [add_block]; exact h2), hh.to hk⟩
theorem KepsR.old {ks : List Kep} (h : KepsR K w v ks) (hf : Fr (fun _ => False) w w') : KepsR K w' v ks := h.to fun b hb hl => ⟨hb, hf.block b hl fun h => h⟩
theorem OwnKeps.reads {rs : List Kep} (h : OwnKeps K B w v rs) (h1 : ∀ b, v.ownBlock = some b → K' b) (h2 : ∀ b, K b → b < w.heap.size → K' b) : KepsR K' w v rs := by
 obtain ⟨zs, rfl, ho, hz⟩ := h
 obtain ⟨oa, cap, hv, hc⟩ := own_at ho
 have hcap : (zs.map (·.1)).length ≤ cap := by
  subst hv
  rcases ho.2 with ⟨e1, e2⟩ | ⟨g, cap', cur, e1, -, -, hle, -⟩
  ·injection e1 with _ e1 e2
   omega
  ·injection e1 with _ _ e2
   omega
 refine ⟨oa, cap, hv, hcap, fun k x hx => ?_⟩
 obtain ⟨g, rfl, hb, hB, hc⟩ := hc (by have := (List.getElem?_eq_some_iff.1 hx).1; omega)
 rw [List.getElem?_map] at hx
 obtain ⟨z, hz1, rfl⟩ := Option.map_eq_some_iff.1 hx
 have hget : ∀ j, j < 8 → (zs.flatMap kepPair)[k * 8 + j]? = (kepPair z)[j]? := fun j hj => flat_get kepPair 8 kep_n hz1 hj
 refine ⟨_, z.2, rfl, h1 g hb, ⟨?_, ?_, ?_, ?_, ?_, ?_, ?_, ?_⟩, (hz z (List.mem_of_getElem? hz1)).mono fun b hb hl => h2 b hb.1 hl⟩
 ·rw [add_lit]; exact hc _ _ (hget 0 (by omega))
 ·rw [lit_off]; exact hc _ _ (hget 1 (by omega))
 ·rw [lit_off]; exact hc _ _ (hget 2 (by omega))
 ·rw [lit_off]; exact hc _ _ (hget 3 (by omega))
 ·rw [lit_off]; exact hc _ _ (hget 4 (by omega))
 ·rw [lit_off]; exact hc _ _ (hget 5 (by omega))
 ·rw [lit_off]; exact hc _ _ (hget 6 (by omega))
 ·rw [lit_off]; exact hc _ _ (hget 7 (by omega))
theorem OwnKeps.push {rs : List Kep} {zs : List (Kep × Value)} (e : zs.map (·.1) = rs) (hz : ∀ z ∈ zs, RecsR (fun b => K b ∧ v.ownBlock ≠ some b) w z.2 z.1.b.recs) {r : Kep} {hv : Value} (hr : RecsR (fun b => K b ∧ v.ownBlock ≠ some b) w hv r.b.recs)
  (h2 : w'.ownsRow B 152 8 v' (rs.length + 1) (zs.flatMap kepPair ++ kepCells r hv)) (hg : w.grownBy w' v.ownBlock) (hb : v'.ownBlock = v.ownBlock ∨ v'.ownBlock = some w.heap.size) : OwnKeps K B w' v' (rs ++ [r]) := by
 have hto : ∀ b, (K b ∧ v.ownBlock ≠ some b) → b < w.heap.size → (K b ∧ v'.ownBlock ≠ some b) ∧ w'.heap[b]? = w.heap[b]? := fun b hb1 hl => by
  refine ⟨⟨hb1.1, ?_⟩, hg.block b hl fun e => hb1.2 e.symm⟩
  rcases hb with h | h
  ·rw [h]; exact hb1.2
  ·rw [h]; intro e; injection e with e; omega
 refine ⟨zs ++ [(r, hv)], by rw [List.map_append, e]; rfl, ?_, fun z hz1 => ?_⟩
 ·rw [List.length_append, List.flatMap_append]
  simpa [kepPair] using h2
 ·rcases List.mem_append.1 hz1 with h | h
  ·exact (hz z h).to hto
  ·simp at h; subst h; exact hr.to hto
end
section
variable {ops : Array Oper} {rest : List Oper} {o : Oper} {a : Act} {Q : Exit → Act → World → Prop}
/-- append of one kept batch. -/
theorem wpList_push_kep (w : World) (hgd : o.guard = none) (s x : Operand) (ho : o.op = .call { callee := .builtin .append, args := #[s, x], argTypes := #[135, 135] })
  (K : Nat → Prop) (B : Nat) (v : Value) (rs : List Kep) (hs : a.eval s = v) (hown : OwnKeps K B w v rs) (g c : Nat) (hx : a.eval x = .slice (some ⟨g, 0, none⟩) 1 c) (r : Kep) (hv : Value)
  (hcells : ∀ j, w.cell? ⟨g, j, none⟩ = (kepCells r hv).toArray[j]?) (hr : RecsR (fun b => K b ∧ v.ownBlock ≠ some b) w hv r.b.recs) (h1c : hv.oneCell' = true) (hlen : rs.length < 1000000000) (hB : B ≤ w.heap.size)
  (h : ∀ v' w', OwnKeps K B w' v' (rs ++ [r]) → w.grownBy w' v.ownBlock → (v'.ownBlock = v.ownBlock ∨ v'.ownBlock = some w.heap.size) → wpList Tryz.prog ops Q rest (a.put o.dst v') w') : wpList Tryz.prog ops Q (o :: rest) a w := by
 obtain ⟨i, hi, hz, hs39, hb39⟩ := info_parts info66
 obtain ⟨zs, e, hw, hzs⟩ := hown
 refine wpList_append_own2 w hgd s x 135 ho B 152 i _ 8 80 Tryz.underlying135 hi hz hs39 hb39 rfl (by decide) v rs.length (zs.flatMap kepPair) hs hw ⟨g, 0, none⟩ 1 c (kepCells r hv) hx rfl ?_ ?_ (by unfold maxLen; omega) (by omega) hB fun v' w' h1 h2 h3 => h v' w' (OwnKeps.push e hzs hr h1 h2 h3) h2 h3
 ·intro j u hj
  rw [add_lit, hcells j]
  simpa using hj
 ·intro u hu
  simp only [kepCells, batCells, List.cons_append, List.nil_append, List.mem_cons, List.not_mem_nil, or_false] at hu
  rcases hu with rfl | rfl | rfl | rfl | rfl | rfl | rfl | rfl <;> first | rfl | exact h1c
end
/-- The latest time of a batch's records; -1: it has none. -/
def latTo : List Rec → Int
 | [] => -1
 | r :: l => max (latTo l) r.tm
def latest (rs : List Rec) : Int := latTo rs.reverse
theorem latest_snoc (l : List Rec) (r : Rec) : latest (l ++ [r]) = max (latest l) r.tm := by simp [latest, latTo]
/-- A segment: its first place, how many bytes ask for an entry, its batches. -/
structure Seg where
 base : Nat
 every : Nat
 l : List Bat
def endOf (base : Int) (l : List Bat) : Int := match l.getLast? with
 | none => base
 | some b => b.base + b.span
def Seg.end' (s : Seg) : Int := endOf s.base s.l
def ixPut (x : Ix) (k : Kep) : Ix := x.add k.b.base k.pos (max (latest k.b.recs) 0)
def ixNew (every : Nat) : Ix := ⟨every, [], false, 0, 0, 0⟩
def Seg.ix (s : Seg) : Ix := (keps 0 s.l).foldl ixPut (ixNew s.every)
def Seg.push (s : Seg) (b : Bat) : Seg := { s with l := s.l ++ [b] }
theorem Seg.ix_push (s : Seg) (b : Bat) : (s.push b).ix = (s.ix).add b.base (sumB s.l) (max (latest b.recs) 0) := by
 simp [Seg.ix, Seg.push, keps_snoc, ixPut]
theorem Seg.end_push (s : Seg) (b : Bat) : (s.push b).end' = b.base + b.span := by simp [Seg.end', Seg.push, endOf]
theorem ix_good (every : Nat) (h1 : 1 ≤ every) (h2 : every ≤ 1000000) : ∀ ks : List Kep, (ks.foldl ixPut (ixNew every)).good := by
 have : ∀ (ks : List Kep) (x : Ix), x.good → (ks.foldl ixPut x).good := by
  intro ks
  induction ks with
  | nil => exact fun x h => h
  | cons k l ih => exact fun x h => ih _ (h.add _ _ _)
 exact fun ks => this ks _ (Ix.good.nil h1 h2)
theorem ix_len (every : Nat) : ∀ ks : List Kep, (ks.foldl ixPut (ixNew every)).es.length ≤ ks.length := by
 have : ∀ (ks : List Kep) (x : Ix), (ks.foldl ixPut x).es.length ≤ x.es.length + ks.length := by
  intro ks
  induction ks with
  | nil => exact fun x => by simp
  | cons k l ih =>
   intro x
   have h1 := ih (ixPut x k)
   have h2 := Ix.add_len x k.b.base k.pos (max (latest k.b.recs) 0)
   simp only [List.foldl_cons, List.length_cons]
   unfold ixPut at *
   omega
 exact fun ks => by simpa [ixNew] using this ks (ixNew every)
/-- Batches behind one another, all of which may be. -/
inductive Chn : Int → List Bat → Prop
 | nil (p : Int) : Chn p []
 | cons {p : Int} {b : Bat} {l : List Bat} (h : BatOK b) (hp : p ≤ b.base) (hl : Chn (b.base + b.span) l) : Chn p (b :: l)
theorem endOf_cons (p : Int) (b : Bat) (l : List Bat) : endOf p (b :: l) = endOf (b.base + b.span) l := by
 cases l with
 | nil => rfl
 | cons a l =>
  unfold endOf
  rw [List.getLast?_cons_cons]
  cases h : (a :: l).getLast? with
  | none => simp at h
  | some x => rfl
theorem Chn.snoc {p : Int} {l : List Bat} (h : Chn p l) {b : Bat} (hb : BatOK b) (he : endOf p l ≤ b.base) : Chn p (l ++ [b]) := by
 induction h with
 | nil p => exact .cons hb he (.nil _)
 | cons h1 h2 h3 ih => rw [endOf_cons] at he; exact .cons h1 h2 (ih he)
theorem Chn.ok {p : Int} {l : List Bat} (h : Chn p l) : ∀ b ∈ l, BatOK b ∧ p ≤ b.base := by
 induction h with
 | nil p => intro b hb; cases hb
 | cons h1 h2 h3 ih =>
  intro b hb
  rcases List.mem_cons.1 hb with rfl | hb
  ·exact ⟨h1, h2⟩
  ·have := ih b hb; have := h1.span0; exact ⟨(ih b hb).1, by omega⟩
theorem Chn.end_ge {p : Int} {l : List Bat} (h : Chn p l) : p ≤ endOf p l := by
 induction h with
 | nil p => exact Int.le_refl _
 | cons h1 h2 h3 ih => rw [endOf_cons]; have := h1.span0; omega
def segObj (db : Nat) (nm : ByteArray) (s : Seg) (bv : Value) (ib : Nat) : Obj :=
 .cells #[.pointer (some ⟨db, 0, none⟩), .string nm, .int .i64 s.base, .int .i64 s.end', .int .i64 (sumB s.l), bv, .pointer (some ⟨ib, 0, none⟩)] 138 (0, 0)
/-- Block sb is the segment s; its blocks are those of S. -/
structure SgV (B : Nat) (w : World) (sb db : Nat) (nm : ByteArray) (s : Seg) (bv : Value) (ib : Nat) (K T : Nat → Prop) : Prop where
 hb : w.heap[sb]? = some (segObj db nm s bv ib)
 ks : OwnKeps K B w bv (keps 0 s.l)
 ix : Ix.rep B w ib s.ix T
 kb : ∀ k, K k → B ≤ k ∧ k < w.heap.size
 hB : B ≤ sb
 sK : ¬ K sb
 sT : ¬ T sb
 sv : bv.ownBlock ≠ some sb
 vT : ∀ k, bv.ownBlock = some k → ¬ T k
 vK : ∀ k, K k → ¬ T k
def sgFoot (sb : Nat) (bv : Value) (K T : Nat → Prop) (k : Nat) : Prop := k = sb ∨ bv.ownBlock = some k ∨ K k ∨ T k
structure SgOK (s : Seg) : Prop where
 e1 : 1 ≤ s.every
 e2 : s.every ≤ 1000000
 b1 : s.base ≤ 1099511627776
 ch : Chn s.base s.l
 len : s.l.length ≤ 800
 sum : sumB s.l ≤ 1000000000
def Sg (B : Nat) (w : World) (sb db : Nat) (nm : ByteArray) (s : Seg) (S : Nat → Prop) : Prop :=
 ∃ bv ib K T, SgV B w sb db nm s bv ib K T ∧ SgOK s ∧ ∀ k, sgFoot sb bv K T k → S k
section
variable {B : Nat} {w w' : World} {sb db : Nat} {nm : ByteArray} {s : Seg} {S S' : Nat → Prop}
theorem Sg.ok (h : Sg B w sb db nm s S) : SgOK s := by obtain ⟨_, _, _, _, _, h, _⟩ := h; exact h
theorem Sg.fr {R : Nat → Prop} (h : Sg B w sb db nm s S) (hf : Fr R w w') (hd : ∀ k, S k → ¬ R k) : Sg B w' sb db nm s S := by
 obtain ⟨bv, ib, K, T, hv, ho, hS⟩ := h
 refine ⟨bv, ib, K, T, ⟨(hf.block _ (lt_of_heap hv.hb) (hd _ (hS _ (.inl rfl)))).trans hv.hb, hv.ks.fr hf (fun k hk => hd k (hS _ (.inr (.inr (.inl hk))))) fun k hk => hd k (hS _ (.inr (.inl hk))), hv.ix.kept fun k hk => hf.block k (hv.ix.lt hk).2 (hd k (hS _ (.inr (.inr (.inr hk))))), fun k hk => ⟨(hv.kb k hk).1, Nat.lt_of_lt_of_le (hv.kb k hk).2 hf.size⟩, hv.hB, hv.sK, hv.sT, hv.sv, hv.vT, hv.vK⟩, ho, hS⟩
theorem Sg.old (h : Sg B w sb db nm s S) (hf : Fr (fun _ => False) w w') : Sg B w' sb db nm s S := h.fr hf fun _ _ h => h
theorem Sg.mono (h : Sg B w sb db nm s S) (hS : ∀ k, S k → S' k) : Sg B w sb db nm s S' := by
 obtain ⟨bv, ib, K, T, hv, ho, h⟩ := h
 exact ⟨bv, ib, K, T, hv, ho, fun k hk => hS k (h k hk)⟩
theorem Sg.blk (h : Sg B w sb db nm s S) : S sb ∧ sb < w.heap.size ∧ B ≤ sb := by
 obtain ⟨bv, ib, K, T, hv, ho, h⟩ := h
 exact ⟨h _ (.inl rfl), lt_of_heap hv.hb, hv.hB⟩
end
end Go.Proofs.YtdlnafhhkpklmaaGreatDoor
