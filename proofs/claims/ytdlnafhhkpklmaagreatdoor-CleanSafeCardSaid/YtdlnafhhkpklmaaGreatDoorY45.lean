/- Swap of a segment: laws, the walk. -/
import Derived.Test.YtdlnafhhkpklmaaGreatDoorY44
namespace Go.Proofs.YtdlnafhhkpklmaaGreatDoor
open Go.RowKit Go.Fm Go.BigFrame Go.Shelf Go.Maps
set_option linter.unusedVariables false
set_option linter.unusedSimpArgs false
set_option maxRecDepth 100000
section
variable {B : Nat} {w w' wA w0 w1 w2 w3 wr : World} {lb db mb : Nat} {p : ByteArray} {lim ev : Nat} {beg : Int} {es es0 es1 : List PE} {own : Bool} {L L' L2 : List Row} {S S' G : Nat → Prop} {room used fuse used' fuse' : Int} {F F' F2 : ByteArray → ByteArray × Nat} {n j k : Nat} {ss A C : List Seg} {s : Seg} {cl : List Bat}
theorem seg_bases (h : LgF p beg (A ++ s :: C) L F) {a : Seg} (ha : a ∈ A ∨ a ∈ C) : nmS p a.base ≠ nmS p s.base := fun e => by
 have h1 := nmS_inj (h.bb a (by rcases ha with h | h <;> simp [h])) (h.bb s (by simp)) e
 obtain ⟨-, h3, h4⟩ := List.pairwise_append.1 h.rise
 rcases ha with ha | ha
 ·have := (h4 a ha s List.mem_cons_self).1; omega
 ·have := ((List.pairwise_cons.1 h3).1 a ha).1; omega
theorem nmS_swap (p : ByteArray) (b : Nat) : nmS p b ≠ swapS p := fun e => by
 have h := nmS_pre p b
 rw [e, swap_pre] at h
 cases h
theorem LgF.swapped (h : LgF p beg (A ++ s :: C) L F) (hC : C ≠ []) (hne : cl ≠ []) (hend : endOf s.base cl ≤ s.end') (hL : ∀ x, (getL L2 x).isSome = if x = nmS p s.base then true else if x = swapS p then false else (getL L x).isSome) (hF : F2 (nmS p s.base) = (catB cl, (catB cl).size)) (hFx : ∀ x, x ≠ nmS p s.base → x ≠ swapS p → F2 x = F x) : LgF p beg (A ++ ⟨s.base, ev, cl⟩ :: C) L2 F2 := by
 have hcur : ∀ x, x ≠ nmS p s.base → x ≠ swapS p → curF L2 F2 x = curF L F x := fun x h1 h2 => curF_congr (by rw [hL, if_neg h1, if_neg h2]) (hFx x h1 h2)
 have hy : curF L2 F2 (nmS p s.base) = (catB cl, (catB cl).size) := by
  have h1 : (getL L2 (nmS p s.base)).isSome = true := by rw [hL, if_pos rfl]
  obtain ⟨fb, hg⟩ := Option.isSome_iff_exists.1 h1
  rw [curF_some hg, hF]
 have hac : ∀ a, a ∈ A ∨ a ∈ C → curF L2 F2 (nmS p a.base) = curF L F (nmS p a.base) := fun a ha => hcur _ (seg_bases h ha) (nmS_swap p _)
 have hdl : ∀ y : Seg, (A ++ y :: C).dropLast = A ++ y :: C.dropLast := fun y => by
  rw [List.dropLast_append_of_ne_nil (by simp), List.dropLast_cons_of_ne_nil hC]
 have hcd : ∀ a, a ∈ C.dropLast → a ∈ C := fun a ha => (List.dropLast_sublist C).subset ha
 obtain ⟨r1, r2, r3⟩ := List.pairwise_append.1 h.rise
 obtain ⟨r4, r5⟩ := List.pairwise_cons.1 r2
 refine ⟨fun a ha => ?_, fun a ha => ?_, fun nm h1 h2 => ?_, ?_, ?_, fun a ha => ?_, fun a ha => ?_⟩
 ·rcases List.mem_append.1 ha with ha | ha
  ·rw [hac a (.inl ha)]; exact h.file a (by simp [ha])
  ·rcases List.mem_cons.1 ha with rfl | ha
   ·show (curF L2 F2 (nmS p s.base)).1 = _
    rw [hy]
   ·rw [hac a (.inr ha)]; exact h.file a (by simp [ha])
 ·rw [hdl] at ha
  rcases List.mem_append.1 ha with ha | ha
  ·rw [hac a (.inl ha)]; exact h.safe a (by rw [hdl]; simp [ha])
  ·rcases List.mem_cons.1 ha with rfl | ha
   ·exact hy
   ·rw [hac a (.inr (hcd a ha))]; exact h.safe a (by rw [hdl]; simp [ha])
 ·by_cases e1 : nm = nmS p s.base
  ·exact ⟨⟨s.base, ev, cl⟩, by simp, e1⟩
  ·rw [hL, if_neg e1] at h1
   split at h1
   ·cases h1
   ·obtain ⟨a, ha, e⟩ := h.own nm h1 h2
    rcases List.mem_append.1 ha with ha | ha
    ·exact ⟨a, by simp [ha], e⟩
    ·rcases List.mem_cons.1 ha with rfl | ha
     ·exact absurd e e1
     ·exact ⟨a, by simp [ha], e⟩
 ·have e1 := start_ne p s.base
  have e2 := start_swap p
  rcases h.strt with ⟨h1, h2⟩ | ⟨h1, h2⟩
  ·refine .inl ⟨?_, h2⟩
   have h3 := hL (startS p)
   rw [if_neg e1, if_neg e2, h1] at h3
   simpa using h3
  ·exact .inr ⟨by rw [hL, if_neg e1, if_neg e2]; exact h1, by rw [hFx _ e1 e2]; exact h2⟩
 ·refine List.pairwise_append.2 ⟨r1, List.pairwise_cons.2 ⟨fun c hc => ?_, r5⟩, fun a ha b hb => ?_⟩
  ·have h1 := r4 c hc
   have h2 : (⟨s.base, ev, cl⟩ : Seg).end' = endOf s.base cl := rfl
   refine ⟨h1.1, ?_⟩
   rw [h2]
   omega
  ·rcases List.mem_cons.1 hb with rfl | hb
   ·exact r3 a ha s List.mem_cons_self
   ·exact r3 a ha b (List.mem_cons_of_mem _ hb)
 ·rcases List.mem_append.1 ha with ha | ha
  ·exact h.bb a (by simp [ha])
  ·rcases List.mem_cons.1 ha with rfl | ha
   ·exact h.bb s (by simp)
   ·exact h.bb a (by simp [ha])
 ·rw [hdl] at ha
  rcases List.mem_append.1 ha with ha | ha
  ·exact h.full a (by rw [hdl]; simp [ha])
  ·rcases List.mem_cons.1 ha with rfl | ha
   ·exact hne
   ·exact h.full a (by rw [hdl]; simp [ha])
theorem LgF.keep (h : LgF p beg ss L F) (hx : ∀ x, x ≠ swapS p → (getL L2 x).isSome = (getL L x).isSome ∧ F2 x = F x) : LgF p beg ss L2 F2 := by
 have hcur : ∀ x, x ≠ swapS p → curF L2 F2 x = curF L F x := fun x h1 => curF_congr (hx x h1).1 (hx x h1).2
 refine ⟨fun a ha => by rw [hcur _ (nmS_swap p _)]; exact h.file a ha, fun a ha => by rw [hcur _ (nmS_swap p _)]; exact h.safe a ha, fun nm h1 h2 => ?_, ?_, h.rise, h.bb, h.full⟩
 ·have e1 : nm ≠ swapS p := fun e => by rw [e, swap_pre] at h2; cases h2
  rw [(hx nm e1).1] at h1
  exact h.own nm h1 h2
 ·have e2 := start_swap p
  rcases h.strt with ⟨h1, h2⟩ | ⟨h1, h2⟩
  ·refine .inl ⟨?_, h2⟩
   have h3 := (hx (startS p) e2).1
   rw [h1] at h3
   simpa using h3
  ·exact .inr ⟨by rw [(hx _ e2).1]; exact h1, by rw [(hx _ e2).2]; exact h2⟩
/-- A log's files on a disk. -/
structure DiskLg (B : Nat) (w : World) (db mb : Nat) (p : ByteArray) (beg : Int) (ss : List Seg) (L : List Row) (room used fuse : Int) (F : ByteArray → ByteArray × Nat) (n : Nat) : Prop where
 d : DkU w db mb room used fuse L F
 rm : room ≤ 4194304
 fl : LgF p beg ss L F
 ch : ∀ s ∈ ss, Chn s.base s.l
 dl : ∀ i, DkS db mb L i → B ≤ i
 b1 : 1 ≤ B
 nL : L.length ≤ n
 nE : ss.length ≤ n
 nB : (catL ss).length ≤ n
 n1 : n ≤ 700
 b0 : 0 ≤ beg
 p1 : 1 ≤ p.size
 p2 : p.size ≤ 20
theorem LogD.dku (h : LogD B w lb db mb p lim ev beg es own L S room used fuse F n) : DkU w db mb room used fuse L F := ⟨h.dk, h.ok, h.us, h.ur⟩
theorem LogD.b0 (h : LogD B w lb db mb p lim ev beg es own L S room used fuse F n) : 0 ≤ beg := by
 obtain ⟨sv, G, hV, -⟩ := h.lg
 exact hV.b0
theorem LogD.dlg (h : LogD B w lb db mb p lim ev beg es own L S room used fuse F n) : DiskLg B w db mb p beg (segsOf es) L room used fuse F n :=
 ⟨h.dku, h.rm, h.fl, fun s hs => h.chn hs, h.dl, h.b1, h.nL, by unfold segsOf; rw [List.length_map]; exact h.nE, h.nB, h.n1, h.b0, h.lg.p1, h.lg.p2⟩
theorem cat_mem {ss : List Seg} {s : Seg} (hs : s ∈ ss) : s.l.length ≤ (catL ss).length := by
 unfold catL
 induction ss with
 | nil => cases hs
 | cons a l ih =>
  rw [List.flatMap_cons, List.length_append]
  rcases List.mem_cons.1 hs with rfl | hs
  ·omega
  ·have := ih hs; omega
/-- Behind a crash. -/
theorem crash_inD {e : Ending} (D : DiskLg B w db mb p beg ss L room used fuse F n) (hst : StepsOK w) (hb1 : beg ≤ 1099511627776) (ev' lim' : Nat) (l1 : 50 ≤ lim') (l2 : lim' ≤ 1000000) (e1 : 1 ≤ ev') (e2 : ev' ≤ 1000000) (hc : CrashPost w db mb room L F e w') :
  ∃ (c : Nat) (F' : ByteArray → ByteArray × Nat) (ts : List Seg), e = .returned (.int .i64 c) ∧ c ≤ L.length ∧ Fr (DkS db mb L) w w' ∧ Reopen p beg ss ev' L F F' ts ∧ (beg ≤ ssEnd beg ts → OpenIn B w' db mb p lim' ev' beg ts L room (usd L F') F' n) := by
 obtain ⟨c, F', rfl, hcl, hd, hcr, hf⟩ := hc
 have hus := D.d.us
 have hur := D.d.ur
 have hrm := D.rm
 have hfle : ∀ r ∈ L, (F r.1).1.size ≤ 4194304 := fun r hr => by
  have h1 := usd_mem (F := F) hr
  omega
 obtain ⟨ts, R⟩ := reopen D.fl D.ch hfle (fun s hs => by
  have := cat_mem hs
  have := D.nB
  have := D.n1
  omega) hcr ev'
 have hle : ∀ r ∈ L, (F' r.1).1.size ≤ (F r.1).1.size ∧ (F' r.1).2 ≤ (F' r.1).1.size := fun r hr => by
  obtain ⟨n, h1, h2, h3⟩ := hcr r hr
  rw [h3]
  refine ⟨by rw [ByteArray.size_extract]; omega, ?_⟩
  show n ≤ ((F r.1).1.extract 0 n).size
  rw [ByteArray.size_extract]
  omega
 have hu := usd_mono (F := F) (F' := F') fun r hr => (hle r hr).1
 have htl := R.len
 have hesl := D.nE
 have hcat : (catL ts).length ≤ n := by
  obtain ⟨k, hk⟩ := R.take
  rw [hk, List.length_take]
  have := D.nB
  omega
 refine ⟨c, F', ts, rfl, hcl, hf, R, fun hbe => ⟨⟨hd, ⟨by omega, by omega, by decide, fun r hr => ⟨?_, (hle r hr).2⟩⟩, rfl, by omega⟩, D.rm, R.i, R.st, D.b0, hb1, hbe, D.dl, D.b1, D.nL, by omega, hcat, D.n1, D.p1, D.p2, l1, l2, e1, e2, hst.fr hf fun h => by
  have := D.dl 0 h
  have := D.b1
  omega⟩⟩
 have := hfle r hr
 have := (hle r hr).1
 omega
/-- The last segment is synced whatever becomes of the others. -/
theorem last_keep {x : Seg} (h : LastSafe p (A ++ s :: C) L F) (hC : C ≠ []) (hx : ∀ c ∈ C, curF L2 F2 (nmS p c.base) = curF L F (nmS p c.base)) : LastSafe p (A ++ x :: C) L2 F2 := by
 intro y hy
 have h1 : (A ++ x :: C).getLast? = C.getLast? := by
  rw [List.getLast?_append, List.getLast?_cons]
  cases hc : C.getLast? with
  | none => exact absurd (List.getLast?_eq_none_iff.1 hc) hC
  | some z => simp
 have h2 : (A ++ s :: C).getLast? = C.getLast? := by
  rw [List.getLast?_append, List.getLast?_cons]
  cases hc : C.getLast? with
  | none => exact absurd (List.getLast?_eq_none_iff.1 hc) hC
  | some z => simp
 rw [h1] at hy
 rw [hx y (List.mem_of_getLast? hy)]
 exact h y (by rw [h2]; exact hy)
theorem own_set {w : World} {B g n cap : Nat} {e : TypeId} {xs : List Value} (h : w.ownsRow B e 1 (.slice (some ⟨g, 0, none⟩) n cap) n xs) {k : Nat} (hk : k < n) (u : Value) : (w.setCell ⟨g, k, none⟩ u).ownsRow B e 1 (.slice (some ⟨g, 0, none⟩) n cap) n (xs.set k u) := by
 obtain ⟨h1, h2⟩ := h
 rcases h2 with ⟨e0, -⟩ | ⟨g', cap', cur, e0, hb, hg, hn, hm, hs, ht⟩
 ·cases e0
 ·injection e0 with e1 _ e3
  injection e1 with e1
  injection e1 with e1
  subst e1 e3
  refine ⟨by rw [List.length_set]; exact h1, .inr ⟨g, cap, cur.setIfInBounds k u, rfl, hb, ?_, hn, hm, by rw [Array.size_setIfInBounds]; exact hs, ?_⟩⟩
  ·rw [heap_setCell_self hg]
  ·rw [Array.toList_setIfInBounds, ← ht, List.take_set]
theorem own_fz {w : World} {B g n cap : Nat} {e : TypeId} {xs : List Value} (h : w.ownsRow B e 1 (.slice (some ⟨g, 0, none⟩) n cap) n xs) (k : Nat) : w.frozen? ⟨g, k, none⟩ = false := by
 rcases h.2 with ⟨e0, -⟩ | ⟨g', cap', cur, e0, hb, hg, hn, hm, hs, ht⟩
 ·cases e0
 ·injection e0 with e1 _ e3
  injection e1 with e1
  injection e1 with e1
  subst e1
  exact fz_of hg k
/-- Another segment stands in the place of one. -/
theorem LgV.mid {sv : Value} {x y : PE} (h : LgV B w lb db mb p lim ev beg (es0 ++ x :: es1) true L sv G) (hf : Fr (fun i => sv.ownBlock = some i ∨ DkS db mb L i) w w3)
  (ho : w3.ownsRow B 96 1 sv (es0 ++ y :: es1).length ((es0 ++ y :: es1).map segV)) (hy : Sg B w3 y.sb db (nmS p y.s.base) y.s y.S) (hyS : ∀ i, y.S i → w.heap.size ≤ i ∧ i < w3.heap.size) (hap : ∀ i, y.S i → ¬ DkS db mb L' i)
  (hD : ∀ i, DkS db mb L' i → DkS db mb L i ∨ w.heap.size ≤ i) (hb : y.s.base ≤ 1099511627776) : LgV B w3 lb db mb p lim ev beg (es0 ++ y :: es1) true L' sv (fun i => sv.ownBlock = some i) := by
 have hG : ∀ i, sv.ownBlock = some i → G i := fun i hi => (h.ow rfl).2 i hi
 have hB : B ≤ w.heap.size := by have := h.lt lb (.inl rfl); omega
 have hm : ∀ e, e ∈ es0 ∨ e ∈ es1 → e ∈ es0 ++ x :: es1 := fun e he => by rcases he with h | h <;> simp [h]
 have hsp : ∀ e ∈ es0 ++ y :: es1, (e ∈ es0 ∨ e ∈ es1) ∨ e = y := fun e he => by
  rcases List.mem_append.1 he with h | h
  ·exact .inl (.inl h)
  ·rcases List.mem_cons.1 h with h | h
   ·exact .inr h
   ·exact .inl (.inr h)
 have hkeep : ∀ i, (i = lb ∨ ∃ e, (e ∈ es0 ∨ e ∈ es1) ∧ e.S i) → ¬ (sv.ownBlock = some i ∨ DkS db mb L i) := fun i hi hr => by
  rcases hi with rfl | ⟨e, he, hi⟩
  ·rcases hr with hr | hr
   ·exact h.nb _ (.inl (hG _ hr)) rfl
   ·exact h.ap _ (.inl rfl) hr
  ·rcases hr with hr | hr
   ·exact h.ng i (hG _ hr) e (hm e he) hi
   ·exact h.ap i (.inr (.inr ⟨e, hm e he, hi⟩)) hr
 have hlt : ∀ i, (i = lb ∨ sv.ownBlock = some i ∨ ∃ e, (e ∈ es0 ∨ e ∈ es1) ∧ e.S i) → B ≤ i ∧ i < w.heap.size := fun i hi => by
  rcases hi with rfl | hi | ⟨e, he, hi⟩
  ·exact h.lt _ (.inl rfl)
  ·exact h.lt i (.inr (.inl (hG i hi)))
  ·exact h.lt i (.inr (.inr ⟨e, hm e he, hi⟩))
 have hsz := hf.size
 have hlb := (h.lt lb (.inl rfl)).2
 obtain ⟨n1, n2, n3⟩ := List.pairwise_append.1 h.nn
 obtain ⟨n4, n5⟩ := List.pairwise_cons.1 n2
 refine ⟨(hf.block _ (lt_of_heap h.b) (hkeep _ (.inl rfl))).trans h.b, segs_of_own ho, fun _ => ⟨ho, fun g hg => hg⟩, fun e he => ?_, fun i hi => ?_, fun i hi hd => ?_, fun i hi e => ?_, fun i hi e he hs => ?_, ?_, h.p1, h.p2, h.l1, h.l2, h.e1, h.e2, h.b0, h.b1, ?_, fun e he => ?_⟩
 ·rcases hsp e he with he | rfl
  ·exact (h.sg e (hm e he)).fr hf fun i hi => hkeep i (.inr ⟨e, he, hi⟩)
  ·exact hy
 ·rcases hi with hi | hi | ⟨e, he, hi⟩
  ·have := hlt i (.inl hi); omega
  ·have := hlt i (.inr (.inl hi)); omega
  ·rcases hsp e he with he | rfl
   ·have := hlt i (.inr (.inr ⟨e, he, hi⟩)); omega
   ·have := hyS i hi; omega
 ·rcases hi with hi | hi | ⟨e, he, hi⟩
  ·rcases hD i hd with h1 | h1
   ·rw [hi] at h1; exact h.ap _ (.inl rfl) h1
   ·have := hlt i (.inl hi); omega
  ·rcases hD i hd with h1 | h1
   ·exact h.ap i (.inr (.inl (hG i hi))) h1
   ·have := hlt i (.inr (.inl hi)); omega
  ·rcases hsp e he with he | rfl
   ·rcases hD i hd with h1 | h1
    ·exact h.ap i (.inr (.inr ⟨e, hm e he, hi⟩)) h1
    ·have := hlt i (.inr (.inr ⟨e, he, hi⟩)); omega
   ·exact hap i hi hd
 ·subst e
  rcases hi with hi | ⟨e, he, hi⟩
  ·exact h.nb _ (.inl (hG _ hi)) rfl
  ·rcases hsp e he with he | rfl
   ·exact h.nb _ (.inr ⟨e, hm e he, hi⟩) rfl
   ·have := hyS _ hi; omega
 ·rcases hsp e he with he | rfl
  ·exact h.ng i (hG i hi) e (hm e he) hs
  ·have := hyS i hs
   have := hlt i (.inr (.inl hi))
   omega
 ·refine List.pairwise_append.2 ⟨n1, List.pairwise_cons.2 ⟨fun c hc i hi hci => ?_, n5⟩, fun a ha b hb i hi hbi => ?_⟩
  ·have := hyS i hi
   have := hlt i (.inr (.inr ⟨c, .inr hc, hci⟩))
   omega
  ·rcases List.mem_cons.1 hb with rfl | hb
   ·have := hyS i hbi
    have := hlt i (.inr (.inr ⟨a, .inl ha, hi⟩))
    omega
   ·exact n3 a ha b (List.mem_cons_of_mem _ hb) i hi hbi
 ·have := h.n
  rw [List.length_append, List.length_cons] at this ⊢
  exact this
 ·rcases hsp e he with he | rfl
  ·exact h.evs e (hm e he)
  ·exact hb
def SwPost (B : Nat) (w : World) (lb db mb : Nat) (p : ByteArray) (lim ev : Nat) (beg : Int) (es0 : List PE) (x : PE) (es1 : List PE) (L : List Row) (S : Nat → Prop) (room used fuse : Int) (F : ByteArray → ByteArray × Nat) (n : Nat) (cl : List Bat) (e : Ending) (w' : World) : Prop :=
 ∃ c : Int, e = .returned (.int .i64 c) ∧ Fr (fun i => S i ∨ DkS db mb L i) w w' ∧
  (c = 0 → ∃ sb' S1 L' S' used' fuse' F', LogD B w' lb db mb p lim ev beg (es0 ++ ⟨sb', ⟨x.s.base, ev, cl⟩, S1⟩ :: es1) true L' S' room used' fuse' F' n ∧ (fuse = -1 → fuse' = -1) ∧ used' + sumB x.s.l ≤ used + sumB cl ∧ (LastSafe p (segsOf (es0 ++ x :: es1)) L F → LastSafe p (segsOf (es0 ++ ⟨sb', ⟨x.s.base, ev, cl⟩, S1⟩ :: es1)) L' F') ∧ Foot db mb w w' S L S' L') ∧
  (c ≠ 0 → fuse ≠ -1 ∧ ∃ ss' L' used' fuse' F', DiskLg B w' db mb p beg ss' L' room used' fuse' F' (n + 1) ∧ (ss' = segsOf (es0 ++ x :: es1) ∨ ss' = segsOf es0 ++ ⟨x.s.base, ev, cl⟩ :: segsOf es1) ∧ (LastSafe p (segsOf (es0 ++ x :: es1)) L F → LastSafe p ss' L' F') ∧ (∀ i, DkS db mb L' i → DkS db mb L i ∨ w.heap.size ≤ i))
end
end Go.Proofs.YtdlnafhhkpklmaaGreatDoor
