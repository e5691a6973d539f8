/- from of a segment: the walk; Read: laws. -/
import Derived.Test.YtdlnafhhkpklmaaGreatDoorY28
namespace Go.Proofs.YtdlnafhhkpklmaaGreatDoor
open Go.RowKit Go.Fm Go.BigFrame Go.Shelf Go.Maps
set_option linter.unusedVariables false
set_option linter.unusedSimpArgs false
set_option maxRecDepth 100000
theorem cmp_walk (k : Kep) (oa : Option Addr) (n cap : Nat) (p : Int) (w : World) (h1 : k.pos ≤ 1000000000) (h2 : 0 ≤ p) (h3 : p ≤ 1099511627776) :
  Calls Tryz.prog 121 #[kepV k (.slice oa n cap), .int .i64 p] w fun e w' => e = .returned (.int .i64 ((k.pos : Int) - p)) ∧ Fr (fun _ => False) w w' := by
 unfold kepV
 go_enter Tryz.func121, Tryz.ntmps121
 go_wp2_with fail
 go_ret
 exact ⟨rfl, (Fr.same _).alloc _⟩
/-- The number of the first of them at a place or behind it. -/
def BsPost (ks : List Kep) (p : Int) (w : World) (e : Ending) (w' : World) : Prop :=
 ∃ (r : Nat) (f : Bool), e = .returned (.tuple #[.int .i64 r, .bool f]) ∧ r ≤ ks.length ∧ (∀ (i : Nat) (k : Kep), ks[i]? = some k → i < r → (k.pos : Int) < p) ∧ (∀ (i : Nat) (k : Kep), ks[i]? = some k → r ≤ i → p ≤ k.pos) ∧ Fr (fun _ => False) w w'
structure BsMid (ks : List Kep) (p : Int) (w : World) (a b : Nat) (wr : World) : Prop where
 ab : a ≤ b
 bn : b ≤ ks.length
 lo : ∀ (i : Nat) (k : Kep), ks[i]? = some k → i < a → (k.pos : Int) < p
 hi : ∀ (i : Nat) (k : Kep), ks[i]? = some k → b ≤ i → p ≤ k.pos
 fr : Fr (fun _ => False) w wr
set_option maxHeartbeats 4000000 in
theorem bs_walk (K : Nat → Prop) (ks : List Kep) (v : Value) (p : Int) (w : World) (h : KepsR K w v ks) (hl : ks.length ≤ 1000) (hpos : ∀ (i j : Nat) (k k' : Kep), ks[i]? = some k → ks[j]? = some k' → i ≤ j → k.pos ≤ k'.pos) (hle : ∀ (i : Nat) (k : Kep), ks[i]? = some k → k.pos ≤ 1000000000) (h2 : 0 ≤ p) (h3 : p ≤ 1099511627776) :
  Calls Tryz.prog 120 #[v, .int .i64 p, .func (.func 121) #[] #[]] w (BsPost ks p w) := by
 obtain ⟨oa, cap, rfl, -, h⟩ := h
 have H := Lib.hid h
 have HP := Lib.hid hpos
 have HL := Lib.hid hle
 clear h hpos hle
 go_enter Tryz.func120, Tryz.ntmps120
 go_wp2_with fail
 go_loopw [9, 10] (fun i j wr => ∃ a b : Nat, i = .int .i64 a ∧ j = .int .i64 b ∧ BsMid ks p w a b wr) (fun i j _ => (intOf j - intOf i).toNat)
 case atStart => exact ⟨0, ks.length, rfl, rfl, Nat.zero_le _, Nat.le_refl _, fun i k _ h => absurd h (by omega), fun i k h h' => by have := (List.getElem?_eq_some_iff.1 h).1; omega, Fr.same _⟩
 case round =>
  obtain ⟨a, b, rfl, rfl, hm⟩ := hrel
  have hab := hm.ab
  have hbn := hm.bn
  have M := Lib.hid hm
  clear hm
  by_cases hlt : a < b
  ·obtain ⟨h, hh⟩ : ∃ h, h = (a + b) / 2 := ⟨_, rfl⟩
   have hh2 : ((a : Int) + b) / 2 = (h : Int) := by omega
   have hah : a ≤ h := by omega
   have hhb : h < b := by omega
   have HH := Lib.hid hh
   clear hh
   obtain ⟨x, hx⟩ := get_of_lt (show h < ks.length by omega)
   obtain ⟨A, rv, rfl, -, hc, hr⟩ := H.out h x hx
   obtain ⟨c0, c1, c2, c3, c4, c5, c6, c7⟩ := hc.to (M.out.fr.block _ hc.lt fun h => h)
   obtain ⟨ra, rcap, rfl, -⟩ := hr
   have hxl := HL.out h x hx
   have HX := Lib.hid hx
   have HC := Lib.hid (cmp_walk x ra x.b.recs.length rcap p wr hxl h2 h3)
   clear hx hc
   unfold kepV at HC
   by_cases hq : (x.pos : Int) < p
   ·have hq1 : decide ((x.pos : Int) - p < 0) = true := by simp; omega
    have HQ := Lib.hid hq
    clear hq
    go_wp2_with fail
    refine HC.out.mono ?_
    rintro e w' ⟨rfl, hf⟩
    have F := Lib.hid (M.out.fr.tr hf)
    clear hf HC c0 c1 c2 c3 c4 c5 c6 c7
    go_wp2_with fail
    go_roundw
    case rel => exact ⟨h + 1, b, by go_num, rfl, by omega, hbn, fun i k hk hi => by
     have := HP.out i h k x hk HX.out (by omega)
     have := HQ.out
     omega, M.out.hi, F.out⟩
    case measure => simp [intOf]; omega
   ·have hq1 : decide ((x.pos : Int) - p < 0) = false := by simp; omega
    have HQ := Lib.hid hq
    clear hq
    go_wp2_with fail
    refine HC.out.mono ?_
    rintro e w' ⟨rfl, hf⟩
    have F := Lib.hid (M.out.fr.tr hf)
    clear hf HC c0 c1 c2 c3 c4 c5 c6 c7
    go_wp2_with fail
    go_roundw
    case rel => exact ⟨a, h, rfl, rfl, hah, by omega, M.out.lo, fun i k hk hi => by
     have := HP.out h i x k HX.out hk hi
     have := HQ.out
     omega, F.out⟩
    case measure => simp [intOf]; omega
  ·obtain rfl : a = b := by omega
   rcases Nat.lt_or_ge a ks.length with hl2 | hl2
   ·obtain ⟨x, hx⟩ := get_of_lt hl2
    obtain ⟨A, rv, rfl, -, hc, hr⟩ := H.out a x hx
    obtain ⟨c0, c1, c2, c3, c4, c5, c6, c7⟩ := hc.to (M.out.fr.block _ hc.lt fun h => h)
    obtain ⟨ra, rcap, rfl, -⟩ := hr
    have hxl := HL.out a x hx
    have HC := Lib.hid (cmp_walk x ra x.b.recs.length rcap p wr hxl h2 h3)
    clear hx hc
    unfold kepV at HC
    go_wp2_with fail
    refine HC.out.mono ?_
    rintro e w' ⟨rfl, hf⟩
    have F := Lib.hid (M.out.fr.tr hf)
    clear hf HC c0 c1 c2 c3 c4 c5 c6 c7
    go_wp2_with fail
    go_ret2
    exact ⟨a, _, rfl, hbn, M.out.lo, M.out.hi, F.out⟩
   ·go_wp2_with fail
    go_ret2
    exact ⟨a, _, rfl, hbn, M.out.lo, M.out.hi, M.out.fr⟩
end Go.Proofs.YtdlnafhhkpklmaaGreatDoor
/- from, Read of a segment: the walks. -/
namespace Go.Proofs.YtdlnafhhkpklmaaGreatDoor
open Go.RowKit Go.Fm Go.BigFrame Go.Shelf Go.Maps
set_option linter.unusedVariables false
set_option linter.unusedSimpArgs false
set_option maxRecDepth 100000
theorem keps_of : ∀ {l : List Bat} {p j : Nat} {k : Kep}, (keps p l)[j]? = some k → ∃ b, l[j]? = some b ∧ k = ⟨b, p + sumB (l.take j), bsz b⟩
 | [], _, _, _, h => by simp [keps] at h
 | a :: l, p, 0, k, h => by simp [keps] at h; subst h; exact ⟨a, rfl, by simp [sumB]⟩
 | a :: l, p, j + 1, k, h => by
  obtain ⟨b, h1, h2⟩ := keps_of (l := l) (p := p + bsz a) (j := j) (k := k) (by simpa [keps] using h)
  exact ⟨b, by simpa using h1, by rw [h2]; simp [sumB_cons, Nat.add_assoc]⟩
theorem sumB_take_le : ∀ {l : List Bat} {i j : Nat}, i ≤ j → sumB (l.take i) ≤ sumB (l.take j)
 | [], _, _, _ => by simp
 | a :: l, 0, j, _ => by simp [sumB]
 | a :: l, i + 1, 0, h => by omega
 | a :: l, i + 1, j + 1, h => by
  have := sumB_take_le (l := l) (i := i) (j := j) (by omega)
  simp only [List.take_succ_cons, sumB_cons]
  omega
theorem sumB_take_all (l : List Bat) (i : Nat) : sumB (l.take i) ≤ sumB l := by
 rcases Nat.le_total i l.length with h | h
 ·have := sumB_take_le (l := l) h
  rwa [List.take_length] at this
 ·rw [List.take_of_length_le h]; exact Nat.le_refl _
theorem bsz_pos (b : Bat) : 8 ≤ bsz b := by unfold bsz; rw [batS_size]; omega
theorem keps_rise (l : List Bat) : ∀ (i j : Nat) (k k' : Kep), (keps 0 l)[i]? = some k → (keps 0 l)[j]? = some k' → i ≤ j → k.pos ≤ k'.pos := by
 intro i j k k' h h' hij
 obtain ⟨b, -, rfl⟩ := keps_of h
 obtain ⟨b', -, rfl⟩ := keps_of h'
 have := sumB_take_le (l := l) hij
 dsimp only
 omega
theorem keps_le (l : List Bat) (hs : sumB l ≤ 1000000000) : ∀ (i : Nat) (k : Kep), (keps 0 l)[i]? = some k → k.pos ≤ 1000000000 := by
 intro i k h
 obtain ⟨b, -, rfl⟩ := keps_of h
 have := sumB_take_all l i
 dsimp only
 omega
/-- The number of the first batch at a place or behind it. -/
def fromOf (l : List Bat) (p : Int) (r : Nat) : Prop := r ≤ l.length ∧ (∀ i, i < r → ((sumB (l.take i) : Nat) : Int) < p) ∧ ∀ i, i < l.length → r ≤ i → p ≤ (sumB (l.take i) : Nat)
def FromPost (l : List Bat) (p : Int) (w : World) (e : Ending) (w' : World) : Prop := ∃ r : Nat, e = .returned (.int .i64 r) ∧ fromOf l p r ∧ Fr (fun _ => False) w w'
theorem Sg.open {B : Nat} {w : World} {sb db : Nat} {nm : ByteArray} {s : Seg} {S : Nat → Prop} (h : Sg B w sb db nm s S) : ∃ bv ib T, w.heap[sb]? = some (segObj db nm s bv ib) ∧ KepsR (fun _ => True) w bv (keps 0 s.l) ∧ Ix.rep B w ib s.ix T := by
 obtain ⟨bv, ib, K, T, V, -⟩ := h
 exact ⟨bv, ib, T, V.hb, V.ks.reads (fun _ _ => trivial) fun _ _ _ => trivial, V.ix⟩
theorem from_walk {B : Nat} {w : World} {sb db : Nat} {nm : ByteArray} {s : Seg} {S : Nat → Prop} (h : Sg B w sb db nm s S) (p : Int) (h2 : 0 ≤ p) (h3 : p ≤ 1099511627776) :
  Calls Tryz.prog 91 #[.pointer (some ⟨sb, 0, none⟩), .int .i64 p] w (FromPost s.l p w) := by
 have ok := h.ok
 obtain ⟨bv, ib, T, hb, hk, -⟩ := h.open
 have c5 : w.cell? ⟨sb, 5, none⟩ = some bv := (cell_of hb 5).trans rfl
 have hl : (keps 0 s.l).length ≤ 1000 := by rw [keps_len]; have := ok.len; omega
 have HC := Lib.hid (bs_walk _ (keps 0 s.l) bv p w hk hl (keps_rise s.l) (keps_le s.l ok.sum) h2 h3)
 clear h hb hk hl ok
 go_enter Tryz.func91, Tryz.ntmps91
 go_wp2_with fail
 refine HC.out.mono ?_
 rintro e w' ⟨r, f, rfl, h1, h4, h5, hf⟩
 have hfrom : fromOf s.l p r := by
  rw [keps_len] at h1
  refine ⟨h1, fun i hi => ?_, fun i hl hi => ?_⟩
  ·obtain ⟨b, hb⟩ := get_of_lt (show i < s.l.length by omega)
   have := h4 i _ (keps_get (p := 0) hb) hi
   simpa using this
  ·obtain ⟨b, hb⟩ := get_of_lt hl
   have := h5 i _ (keps_get (p := 0) hb) hi
   simpa using this
 have HF := Lib.hid hfrom
 have F := Lib.hid hf
 clear h1 h4 h5 hf hfrom
 go_wp2_with fail
 go_ret
 exact ⟨r, rfl, HF.out, F.out⟩
/-- What is read from a place on. -/
def pick (from' most : Int) : List Bat → Int → List Bat → List Bat
 | [], _, out => out
 | b :: l, n, out => if b.base + b.span ≤ from' then pick from' most l n out else if 0 < out.length ∧ most < n + bsz b then out else pick from' most l (n + bsz b) (out ++ [b])
theorem pick_skip (from' most : Int) : ∀ (r : Nat) (l : List Bat) (n : Int) (out : List Bat), (∀ i b, l[i]? = some b → i < r → b.base + b.span ≤ from') → pick from' most (l.drop r) n out = pick from' most l n out
 | 0, l, n, out, _ => by rw [List.drop_zero]
 | r + 1, [], n, out, _ => by simp
 | r + 1, b :: l, n, out, h => by
  rw [List.drop_succ_cons, pick_skip from' most r l n out fun i b hb hi => h (i + 1) b (by simpa using hb) (by omega)]
  rw [pick, if_pos (h 0 b rfl (by omega))]
theorem lastOf_mem (p : E → Bool) : ∀ (l : List E) (a : Nat), lastOf p a l = a ∨ ∃ e ∈ l, p e = true ∧ lastOf p a l = e.p
 | [], a => .inl rfl
 | x :: l, a => by
  unfold lastOf
  rw [List.foldl_cons]
  by_cases h : p x = true
  ·rw [if_pos h]
   rcases lastOf_mem p l x.p with h1 | ⟨e, h1, h2, h3⟩
   ·exact .inr ⟨x, List.mem_cons_self, h, h1⟩
   ·exact .inr ⟨e, List.mem_cons_of_mem _ h1, h2, h3⟩
  ·rw [if_neg h]
   rcases lastOf_mem p l a with h1 | ⟨e, h1, h2, h3⟩
   ·exact .inl h1
   ·exact .inr ⟨e, List.mem_cons_of_mem _ h1, h2, h3⟩
theorem add_mem {x : Ix} {o p t : Int} {e : E} (h : e ∈ (x.add o p t).es) : e ∈ x.es ∨ ((e.o : Int) = o ∧ (e.p : Int) = p) := by
 unfold Ix.add at h
 split at h
 ·rename_i ht
  obtain ⟨⟨h1, h2, -⟩, -⟩ := ht
  unfold Ix.put at h
  dsimp only at h
  split at h
  ·rcases List.mem_append.1 h with h | h
   ·exact .inl h
   ·rw [List.mem_singleton.1 h]
    exact .inr ⟨Int.toNat_of_nonneg h1.1, Int.toNat_of_nonneg h2.1⟩
  ·exact .inl h
 ·exact .inl h
theorem ix_mem (every : Nat) : ∀ (ks : List Kep) (x : Ix), ∀ e ∈ (ks.foldl ixPut x).es, e ∈ x.es ∨ ∃ k ∈ ks, k.b.base = e.o ∧ k.pos = e.p
 | [], x, e, h => .inl h
 | k :: ks, x, e, h => by
  rw [List.foldl_cons] at h
  rcases ix_mem every ks _ e h with h | ⟨k', h1, h2, h3⟩
  ·rcases add_mem h with h | ⟨h1, h2⟩
   ·exact .inl h
   ·exact .inr ⟨k, List.mem_cons_self, h1.symm, by omega⟩
  ·exact .inr ⟨k', List.mem_cons_of_mem _ h1, h2, h3⟩
theorem chn_end_le {p : Int} {l : List Bat} (h : Chn p l) : ∀ {i j : Nat} {b b' : Bat}, l[i]? = some b → l[j]? = some b' → i < j → b.base + b.span ≤ b'.base := by
 induction h with
 | nil p => intro i j b b' h; simp at h
 | cons h1 h2 h3 ih =>
  intro i j b b' hi hj hij
  cases j with
  | zero => omega
  | succ j =>
   cases i with
   | zero =>
    simp at hi hj
    subst hi
    exact (h3.ok b' (List.mem_of_getElem? hj)).2
   | succ i => exact ih (by simpa using hi) (by simpa using hj) (by omega)
/-- What the index lets a reader pass by holds nothing behind the place. -/
theorem find_skips {s : Seg} (ok : SgOK s) (from' : Int) {r : Nat} (hr : fromOf s.l (s.ix.find from') r) : ∀ i b, s.l[i]? = some b → i < r → b.base + b.span ≤ from' := by
 intro i b hb hi
 have h1 := hr.2.1 i hi
 rcases lastOf_mem (fun e => decide ((e.o : Int) ≤ from')) s.ix.es 0 with h | ⟨e, he, hp, h⟩
 ·rw [show s.ix.find from' = 0 from h] at h1
  omega
 ·rw [show s.ix.find from' = e.p from h] at h1
  rcases ix_mem s.every (keps 0 s.l) _ e he with h2 | ⟨k, hk, h2, h3⟩
  ·cases h2
  ·obtain ⟨j, hj⟩ := List.getElem?_of_mem hk
   obtain ⟨b', hb', rfl⟩ := keps_of hj
   dsimp only at h2 h3
   have hij : i < j := by
    rcases Nat.lt_or_ge i j with h4 | h4
    ·exact h4
    ·have := sumB_take_le (l := s.l) h4
     omega
   have := chn_end_le ok.ch hb hb' hij
   simp at hp
   omega
end Go.Proofs.YtdlnafhhkpklmaaGreatDoor
/- Read of a segment: the walk. -/
namespace Go.Proofs.YtdlnafhhkpklmaaGreatDoor
open Go.RowKit Go.Fm Go.BigFrame Go.Shelf Go.Maps
set_option linter.unusedVariables false
set_option linter.unusedSimpArgs false
set_option maxRecDepth 100000
theorem add_add2 (a : Addr) (x y : Nat) : (a.add x).add y = a.add (x + y) := by
 by_cases h : x = 0
 ·subst h; simp [Addr.add]
 ·by_cases h2 : y = 0
  ·subst h2; simp [Addr.add]
  ·unfold Addr.add
   rw [if_neg h, if_neg h2, if_neg (by omega)]
   simp [Nat.add_assoc]
def ReadPost (l : List Bat) (from' most : Int) (w : World) (e : Ending) (w' : World) : Prop :=
 ∃ v, e = .returned v ∧ BatsR (fun b => w.heap.size ≤ b) w' v (pick from' most l 0 []) ∧ Fr (fun _ => False) w w'
/-- Between two batches. -/
structure RdMid (l : List Bat) (from' most : Int) (w : World) (r k : Nat) (n : Int) (o : Value) (out : List Bat) (wr : World) : Prop where
 kn : r + k ≤ l.length
 own : OwnBats (fun b => w.heap.size ≤ b) w.heap.size wr o out
 eq : pick from' most (l.drop (r + k)) n out = pick from' most l 0 []
 n0 : 0 ≤ n
 n1 : n ≤ sumB (l.take (r + k))
 len : out.length ≤ k
 fr : Fr (fun _ => False) w wr
theorem RdMid.skip {l : List Bat} {from' most : Int} {w : World} {r k : Nat} {n : Int} {o : Value} {out : List Bat} {wr w' : World} (h : RdMid l from' most w r k n o out wr) {b : Bat} (hst : l.drop (r + k) = b :: l.drop (r + k + 1))
  (hlt : r + k < l.length) (hb : b.base + b.span ≤ from') (hf : Fr (fun _ => False) wr w') : RdMid l from' most w r (k + 1) n o out w' := by
 refine ⟨by omega, h.own.old hf, ?_, h.n0, Int.le_trans h.n1 (by have := sumB_take_le (l := l) (show r + k ≤ r + (k + 1) by omega); omega), by have := h.len; omega, h.fr.tr hf⟩
 rw [← h.eq, hst, pick, if_pos hb]
 rfl
theorem RdMid.push {l : List Bat} {from' most : Int} {w : World} {r k : Nat} {n : Int} {o o' : Value} {out : List Bat} {wr w' : World} (h : RdMid l from' most w r k n o out wr) {b : Bat} (hst : l.drop (r + k) = b :: l.drop (r + k + 1)) (hsn : sumB (l.take (r + k + 1)) = sumB (l.take (r + k)) + bsz b)
  (hlt : r + k < l.length) (hb : ¬ b.base + b.span ≤ from') (hc : ¬ (0 < out.length ∧ most < n + bsz b)) (ho : OwnBats (fun b => w.heap.size ≤ b) w.heap.size w' o' (out ++ [b])) (hf : Fr (fun _ => False) w w') : RdMid l from' most w r (k + 1) (n + bsz b) o' (out ++ [b]) w' := by
 refine ⟨by omega, ho, ?_, by have := h.n0; omega, ?_, by have := h.len; simp; omega, hf⟩
 ·rw [← h.eq, hst, pick, if_neg hb, if_neg hc]
  rfl
 ·have := h.n1
  rw [← Nat.add_assoc, hsn]
  omega
theorem RdMid.stop {l : List Bat} {from' most : Int} {w : World} {r k : Nat} {n : Int} {o : Value} {out : List Bat} {wr w' : World} (h : RdMid l from' most w r k n o out wr) {b : Bat} (hst : l.drop (r + k) = b :: l.drop (r + k + 1))
  (hb : ¬ b.base + b.span ≤ from') (hc : 0 < out.length ∧ most < n + bsz b) (hf : Fr (fun _ => False) wr w') : ReadPost l from' most w (.returned o) w' := by
 refine ⟨o, rfl, ?_, h.fr.tr hf⟩
 rw [← h.eq, hst, pick, if_neg hb, if_pos hc]
 exact (h.own.old hf).reads (fun b hb _ => hb) fun b hb _ => hb
theorem RdMid.done {l : List Bat} {from' most : Int} {w : World} {r k : Nat} {n : Int} {o : Value} {out : List Bat} {wr : World} (h : RdMid l from' most w r k n o out wr) (hk : l.length ≤ r + k) : ReadPost l from' most w (.returned o) wr := by
 refine ⟨o, rfl, ?_, h.fr⟩
 rw [← h.eq, List.drop_eq_nil_of_le hk, pick]
 exact h.own.reads (fun b hb _ => hb) fun b hb _ => hb
set_option maxHeartbeats 16000000 in
theorem sread_walk {B : Nat} {w : World} {sb db : Nat} {nm : ByteArray} {s : Seg} {S : Nat → Prop} (h : Sg B w sb db nm s S) (from' most : Int) :
  Calls Tryz.prog 58 #[.pointer (some ⟨sb, 0, none⟩), .int .i64 from', .int .i64 most] w (ReadPost s.l from' most w) := by
 have ok := h.ok
 obtain ⟨bv, ib, T, hb, hk, hix⟩ := h.open
 obtain ⟨oa, cap, hbv, hcap, hks⟩ := hk
 rw [keps_len] at hbv hcap
 subst hbv
 have hgood : s.ix.good := ix_good _ ok.e1 ok.e2 _
 have hlen : s.ix.es.length ≤ 1000 := by
  have := ix_len s.every (keps 0 s.l)
  rw [keps_len] at this
  have := ok.len
  exact Nat.le_trans (by assumption) (by omega)
 have hfl : (s.ix.find from' : Nat) ≤ 1099511627776 := by
  rcases lastOf_mem (fun e => decide ((e.o : Int) ≤ from')) s.ix.es 0 with h | ⟨e, he, hp, h⟩
  ·rw [show s.ix.find from' = 0 from h]; omega
  ·rw [show s.ix.find from' = e.p from h]
   have := (hgood.es e he).2.1
   unfold big at this
   exact this
 have x5 : ∀ y : Lcl.InS (fun w' => Fr (fun _ => False) w w'), y.w.cell? ⟨sb, 5, none⟩ = some (.slice oa s.l.length cap) := fun y => y.h.cel ((cell_of hb 5).trans rfl)
 have x6 : ∀ y : Lcl.InS (fun w' => Fr (fun _ => False) w w'), y.w.cell? ⟨sb, 6, none⟩ = some (.pointer (some ⟨ib, 0, none⟩)) := fun y => y.h.cel ((cell_of hb 6).trans rfl)
 have HF := Lib.hid (find_any (hix.kept (w' := w.drew) fun k hk => rfl) hgood.took hgood.rise hlen from')
 have HS := Lib.hid h
 have HK := Lib.hid hks
 have OK := Lib.hid ok
 have HCAP := Lib.hid hcap
 have HFL := Lib.hid hfl
 clear h ok hb hks hix hgood hlen hcap hfl
 go_enter Tryz.func58, Tryz.ntmps58
 go_wp2_with fail
 refine Lcl.wp_region_calm (by kernel_rfl) [(true, [0, 1, 2, 4, 5, 6, 7, 9, 14]), (false, [3, 8])] #[0, 1, 3, 7, 0, 0, 32, 96, 224, 0, 992, 2032, 4095, 8191, 0] [0, 1, 2, 3, 4, 5, 6, 7, 8, 9, 10, 11, 14] 4 #[true, true, true, true, true, true, true, true, true, true, false, false, false, false, true] (by kernel_rfl) (by kernel_rfl) (by kernel_rfl) (fun w' => Fr (fun _ => False) w w') (Fr.same w).drew (fun d c a v w h => by cases d <;> exact h) ?_
 simp only [Lcl.opsOf, List.map_cons, List.map_nil, List.getElem?_toArray, List.getElem?_cons_succ, List.getElem?_cons_zero, Option.getD_some]
 refine Lcl.wpCalm_t ?_
 repeat (go_big_quiet_step (rfl))
 refine wpQuiet_nil ?_
 refine Lcl.wpCalm_f ?_
 repeat (go_big_quiet_step (rfl))
 refine wpQuiet_nil ?_
 refine Lcl.wpCalm_nil ?_
 clear x5 x6
 refine Lcl.wpG_one 10 rfl (by kernel_rfl) ?_
 go_wp2_with fail
 refine HF.out.mono ?_
 rintro e w2 ⟨rfl, hf2⟩
 have F2 := Lib.hid ((Fr.same w).drew.tr hf2)
 have HS2 := Lib.hid (HS.out.old F2.out)
 clear hf2 HF
 go_wp2_with fail
 refine ⟨fun _ _ => F2.out, ?_⟩
 refine Lcl.wpG_one 11 rfl (by kernel_rfl) ?_
 go_wp2_with fail
 refine (from_walk HS2.out (s.ix.find from' : Nat) (by omega) (by have := HFL.out; omega)).mono ?_
 rintro e w3 ⟨r, rfl, hr, hf3⟩
 have hskip := find_skips OK.out from' hr
 have hrl := hr.1
 have SK := Lib.hid (pick_skip from' most r s.l 0 [] hskip)
 have F3 := Lib.hid (F2.out.tr hf3)
 clear hf3 hr hskip
 go_wp2_with fail
 refine ⟨fun _ _ => F3.out, ?_⟩
 rcases Nat.lt_or_ge r s.l.length with hrl2 | hrl2
 ·obtain ⟨b0, hb0⟩ := get_of_lt hrl2
  obtain ⟨a, rv0, rfl, -⟩ := HK.out r _ (keps_get (p := 0) hb0)
  have hcr : ¬ cap = r := by have := HCAP.out; omega
  have hcr2 : r ≤ cap := by have := HCAP.out; omega
  clear hb0
  refine Lcl.wpG_run [12, 13] _ _ _ (by kernel_rfl) ?_
  simp only [List.map_cons, List.map_nil, List.getElem?_toArray, List.getElem?_cons_succ, List.getElem?_cons_zero, Option.getD_some]
  go_wp2_with fail
  obtain ⟨q, hq⟩ : ∃ q, s.l.length = r + q := ⟨s.l.length - r, by omega⟩
  have hq2 : s.l.length - r = q := by omega
  rw [hq2]
  have hqb : q ≤ 1000 := by have := OK.out.len; omega
  have HQ := Lib.hid hq
  clear hq2 hcr hcr2 hq
  generalize hA : a.add (r * 8) = A at *
  have HA := Lib.hid hA
  clear hA
  go_loopw [7, 8, 27] (fun o n i wr => ∃ (k : Nat) (m : Int) (out : List Bat), i = .int .i64 k ∧ n = .int .i64 m ∧ RdMid s.l from' most w r k m o out wr) (fun _ _ i _ => q - (intOf i).toNat)
  case atStart => exact ⟨0, 0, [], rfl, rfl, ⟨hrl, OwnBats.nil _ _ _, SK.out, Int.le_refl _, by omega, Nat.le_refl _, F3.out⟩⟩
  case round =>
   obtain ⟨k, m, out, rfl, rfl, hm⟩ := hrel
   have M := Lib.hid hm
   obtain ⟨ob, ocap, rfl⟩ := hm.own.slice
   have hn0 := hm.n0
   have hn1 := hm.n1
   have hln := hm.len
   clear hm
   rcases Nat.lt_or_ge k q with hlt | hge
   ·obtain ⟨b, hb⟩ := get_of_lt (show r + k < s.l.length by have := HQ.out; omega)
    obtain ⟨A2, rv, ha2, -, hc, hr⟩ := HK.out (r + k) _ (keps_get (p := 0) hb)
    injection ha2 with ha2
    subst ha2
    rw [Nat.add_mul, ← add_add2, HA.out] at hc
    obtain ⟨c0, c1, c2, c3, c4, c5, c6, c7⟩ := hc.to (M.out.fr.block _ hc.lt fun h => h)
    have hr2 := hr.old M.out.fr
    have hh := hr2
    obtain ⟨ra, rcap, rfl, -⟩ := hh
    dsimp only at c0 c1 c2 c3 c4 c5 c6 c7
    have hok := (OK.out.ch.ok b (List.mem_of_getElem? hb)).1
    have hst : s.l.drop (r + k) = b :: s.l.drop (r + k + 1) := by
     rw [List.drop_eq_getElem_cons (show r + k < s.l.length by have := HQ.out; omega)]
     congr 1
     exact (List.getElem?_eq_some_iff.1 hb).2
    have hsn : sumB (s.l.take (r + k + 1)) = sumB (s.l.take (r + k)) + bsz b := by rw [take_snoc' hb, sumB_snoc]
    have hfa := M.out.fr.alloc (.cells (kepCells ⟨b, 0 + sumB (s.l.take (r + k)), bsz b⟩ (.slice ra b.recs.length rcap)).toArray 152)
    have hxa : (wr.alloc (.cells (kepCells ⟨b, 0 + sumB (s.l.take (r + k)), bsz b⟩ (.slice ra b.recs.length rcap)).toArray 152)).heap[wr.heap.size]? = some (.cells (kepCells ⟨b, 0 + sumB (s.l.take (r + k)), bsz b⟩ (.slice ra b.recs.length rcap)).toArray 152 (0, 0)) := heap_alloc_self _ _
    have HR := Lib.hid (hr2.old ((Fr.same wr).alloc (.cells (kepCells ⟨b, 0 + sumB (s.l.take (r + k)), bsz b⟩ (.slice ra b.recs.length rcap)).toArray 152)))
    have HOW := Lib.hid (M.out.own.old ((Fr.same wr).alloc (.cells (kepCells ⟨b, 0 + sumB (s.l.take (r + k)), bsz b⟩ (.slice ra b.recs.length rcap)).toArray 152)))
    have FA := Lib.hid hfa
    have FWA := Lib.hid ((Fr.same wr).alloc (.cells (kepCells ⟨b, 0 + sumB (s.l.take (r + k)), bsz b⟩ (.slice ra b.recs.length rcap)).toArray 152))
    have XA := Lib.hid hxa
    have HOK := Lib.hid hok
    have HST := Lib.hid hst
    have HSN := Lib.hid hsn
    have hkw := kend_walk ⟨b, 0 + sumB (s.l.take (r + k)), bsz b⟩ ra b.recs.length rcap (wr.alloc (.cells (kepCells ⟨b, 0 + sumB (s.l.take (r + k)), bsz b⟩ (.slice ra b.recs.length rcap)).toArray 152)) hok.base0 hok.base1 (by have := hok.span0; dsimp only; omega) (by have := hok.span1; dsimp only; omega)
    have hbz := bsz_le hok
    have hta := sumB_take_all s.l (r + k)
    have hsm := OK.out.sum
    have HKW := Lib.hid hkw
    clear hb hc hr hr2 hok hst hsn hfa hxa hkw
    unfold kepCells batCells at FA XA HKW HR HOW FWA
    unfold kepV at HKW
    dsimp only [List.cons_append, List.nil_append] at FA XA HKW HR HOW FWA
    rw [Nat.zero_add] at c6 FA XA HKW HR HOW FWA
    go_wp2_with fail
    generalize (wr.alloc (.cells #[.int .i64 b.base, .int .i64 b.span, .int .i64 b.prod, .int .i64 b.epoch, .int .i64 b.seq, .slice ra b.recs.length rcap, .int .i64 (sumB (s.l.take (r + k))), .int .i64 (bsz b)] 152)) = W2 at *
    clear c0 c1 c2 c3 c4 c5 c6 c7
    refine HKW.out.mono ?_
    rintro e w4 ⟨rfl, hf4⟩
    have F4 := Lib.hid ((Fr.same W2).tr hf4)
    have X4 := Lib.hid ((hf4.block _ (lt_of_heap XA.out) fun h => h).trans XA.out)
    have HR4 := Lib.hid (HR.out.old hf4)
    have HOW4 := Lib.hid (HOW.out.old hf4)
    have FW := Lib.hid ((Fr.same wr).tr ((show Fr (fun _ => False) wr W2 from FWA.out).tr hf4))
    clear hf4 HKW XA HR HOW
    by_cases hle : b.base + b.span ≤ from'
    ·have MS := Lib.hid (M.out.skip HST.out (by have := HQ.out; omega) hle FW.out)
     go_wp2_with fail
     go_roundw
     case rel => exact ⟨k + 1, m, out, by go_num, rfl, MS.out⟩
     case measure => simp [intOf]; omega
    ·have d7 : w4.cell? ⟨wr.heap.size, 7, none⟩ = some (.int .i64 (bsz b)) := (cell_of X4.out 7).trans rfl
     have d0 : w4.cell? ⟨wr.heap.size, 0, none⟩ = some (.int .i64 b.base) := (cell_of X4.out 0).trans rfl
     have d1 : w4.cell? ⟨wr.heap.size, 1, none⟩ = some (.int .i64 b.span) := (cell_of X4.out 1).trans rfl
     have d2 : w4.cell? ⟨wr.heap.size, 2, none⟩ = some (.int .i64 b.prod) := (cell_of X4.out 2).trans rfl
     have d3 : w4.cell? ⟨wr.heap.size, 3, none⟩ = some (.int .i64 b.epoch) := (cell_of X4.out 3).trans rfl
     have d4 : w4.cell? ⟨wr.heap.size, 4, none⟩ = some (.int .i64 b.seq) := (cell_of X4.out 4).trans rfl
     have d5 : w4.cell? ⟨wr.heap.size, 5, none⟩ = some (.slice ra b.recs.length rcap) := (cell_of X4.out 5).trans rfl
     have HLE := Lib.hid hle
     by_cases hstop : 0 < out.length ∧ most < m + bsz b
     ·have MS := Lib.hid (M.out.stop HST.out hle hstop FW.out)
      obtain ⟨hs1, hs2⟩ := hstop
      have hne : ¬ from' ≥ b.base + b.span := by omega
      clear hle
      go_wp2_with fail
      go_ret
      exact MS.out
     ·have HNS := Lib.hid hstop
      have hrl := HOK.out.len
      have hrh : ∀ r ∈ b.recs, r.hs.length ≤ 1000 := fun r hr => by
       obtain ⟨k, hk⟩ := List.getElem?_of_mem hr
       have := (HOK.out.recs k r hk).ok.hs
       omega
      have HC := Lib.hid (copied_walk _ b _ _ HR4.out (by omega) hrh)
      clear hrh hstop
      unfold batV at HC
      by_cases hz : out.length = 0
      ·have hz' : ¬ 0 < out.length := by omega
       have HZ := Lib.hid hz
       have hzz : decide (0 < out.length) = false := by simpa using hz
       clear hz
       go_wp2_with fail
       refine HC.out.mono ?_
       rintro e w5 ⟨rv5, rfl, hr5, hf5⟩
       have one5 := recs_one hr5
       have hfa5 := (FW.out.tr hf5).alloc (.cells (batCells b rv5).toArray 36)
       have HR5 := Lib.hid ((hr5.old ((Fr.same w5).alloc (.cells (batCells b rv5).toArray 36))).mono (K' := fun x => w.heap.size ≤ x ∧ (Value.slice ob out.length ocap).ownBlock ≠ some x) fun x hx _ => ⟨by
        have h1 := FA.out.size
        have h2 := F4.out.size
        have hx' : w4.heap.size ≤ x := hx
        omega, fun e => by
        have h1 := (HOW4.out.lt e).2
        have hx' : w4.heap.size ≤ x := hx
        omega⟩)
       have HOW5 := Lib.hid ((HOW4.out.old hf5).old ((Fr.same w5).alloc (.cells (batCells b rv5).toArray 36)))
       have CA5 := Lib.hid (fun j => cell_alloc_new w5 (batCells b rv5).toArray 36 j)
       have F5 := Lib.hid (M.out.fr.tr hfa5)
       obtain ⟨ra5, rcap5, hrv⟩ : ∃ a c, rv5 = .slice a b.recs.length c := by obtain ⟨a, c, h, -⟩ := HR5.out; exact ⟨a, c, h⟩
       subst hrv
       have hol : out.length < 1000000 := by omega
       have hwb : w.heap.size ≤ (w5.alloc (.cells (batCells b (.slice ra5 b.recs.length rcap5)).toArray 36)).heap.size := F5.out.size
       have HWB := Lib.hid hwb
       clear hr5 hf5 hfa5 hwb one5 HC d0 d1 d2 d3 d4 d5 d7
       unfold batCells at HR5 HOW5 CA5 F5 HWB
       unfold batV
       go_wp2_with (at_builtin; refine wpList_push_bat _ rfl (.tmp 47) (.tmp 51) rfl (fun b => w.heap.size ≤ b) w.heap.size (.slice ob out.length ocap) out rfl HOW5.out w5.heap.size 1 rfl b (.slice ra5 b.recs.length rcap5) CA5.out HR5.out rfl hol HWB.out ?_)
       intro v6 w6 ho6 hg6 hb6
       have F6 := Lib.hid (F5.out.grown hg6 fun k hk => .inr (HOW5.out.lt hk).1)
       have MP := Lib.hid (M.out.push HST.out HSN.out (by have := HQ.out; omega) (by have := HLE.out; omega) HNS.out ho6 F6.out)
       clear ho6 hg6 hb6
       go_wp2_with fail
       go_roundw
       case rel => exact ⟨k + 1, m + bsz b, out ++ [b], by go_num, rfl, MP.out⟩
       case measure => simp [intOf]; omega
      ·have hz' : 0 < out.length := by omega
       have hnm : ¬ most < m + bsz b := fun h => HNS.out ⟨hz', h⟩
       have hle2 : m + bsz b ≤ most := by omega
       clear hz hnm
       go_wp2_with fail
       refine HC.out.mono ?_
       rintro e w5 ⟨rv5, rfl, hr5, hf5⟩
       have one5 := recs_one hr5
       have hfa5 := (FW.out.tr hf5).alloc (.cells (batCells b rv5).toArray 36)
       have HR5 := Lib.hid ((hr5.old ((Fr.same w5).alloc (.cells (batCells b rv5).toArray 36))).mono (K' := fun x => w.heap.size ≤ x ∧ (Value.slice ob out.length ocap).ownBlock ≠ some x) fun x hx _ => ⟨by
        have h1 := FA.out.size
        have h2 := F4.out.size
        have hx' : w4.heap.size ≤ x := hx
        omega, fun e => by
        have h1 := (HOW4.out.lt e).2
        have hx' : w4.heap.size ≤ x := hx
        omega⟩)
       have HOW5 := Lib.hid ((HOW4.out.old hf5).old ((Fr.same w5).alloc (.cells (batCells b rv5).toArray 36)))
       have CA5 := Lib.hid (fun j => cell_alloc_new w5 (batCells b rv5).toArray 36 j)
       have F5 := Lib.hid (M.out.fr.tr hfa5)
       obtain ⟨ra5, rcap5, hrv⟩ : ∃ a c, rv5 = .slice a b.recs.length c := by obtain ⟨a, c, h, -⟩ := HR5.out; exact ⟨a, c, h⟩
       subst hrv
       have hol : out.length < 1000000 := by omega
       have hwb : w.heap.size ≤ (w5.alloc (.cells (batCells b (.slice ra5 b.recs.length rcap5)).toArray 36)).heap.size := F5.out.size
       have HWB := Lib.hid hwb
       clear hr5 hf5 hfa5 hwb one5 HC d0 d1 d2 d3 d4 d5 d7
       unfold batCells at HR5 HOW5 CA5 F5 HWB
       unfold batV
       go_wp2_with (at_builtin; refine wpList_push_bat _ rfl (.tmp 47) (.tmp 51) rfl (fun b => w.heap.size ≤ b) w.heap.size (.slice ob out.length ocap) out rfl HOW5.out w5.heap.size 1 rfl b (.slice ra5 b.recs.length rcap5) CA5.out HR5.out rfl hol HWB.out ?_)
       intro v6 w6 ho6 hg6 hb6
       have F6 := Lib.hid (F5.out.grown hg6 fun k hk => .inr (HOW5.out.lt hk).1)
       have MP := Lib.hid (M.out.push HST.out HSN.out (by have := HQ.out; omega) (by have := HLE.out; omega) HNS.out ho6 F6.out)
       clear ho6 hg6 hb6
       go_wp2_with fail
       go_roundw
       case rel => exact ⟨k + 1, m + bsz b, out ++ [b], by go_num, rfl, MP.out⟩
       case measure => simp [intOf]; omega
   ·have MS := Lib.hid (M.out.done (by have := HQ.out; omega))
    have hkq : ¬ (k : Int) < q := by omega
    go_wp2_with fail
    go_ret
    exact MS.out
 ·obtain rfl : r = s.l.length := by omega
  have hcr2 := HCAP.out
  have hz : pick from' most s.l 0 [] = [] := by rw [← SK.out, List.drop_length, pick]
  have HZ := Lib.hid hz
  have hss : s.l.length - s.l.length = 0 := by omega
  have hll := OK.out.len
  clear hz hrl hrl2
  refine Lcl.wpG_run [12, 13] _ _ _ (by kernel_rfl) ?_
  simp only [List.map_cons, List.map_nil, List.getElem?_toArray, List.getElem?_cons_succ, List.getElem?_cons_zero, Option.getD_some]
  cases oa with
  | none =>
   go_wp2_with fail
   refine wp_loop_rounds 1 ?_
   rw [rounds_succ]
   go_wp2_with fail
   go_ret
   exact ⟨_, rfl, by rw [HZ.out]; exact (OwnBats.nil (fun b => w.heap.size ≤ b) w.heap.size w3).reads (fun b hb _ => hb) fun b hb _ => hb, F3.out⟩
  | some a =>
   by_cases hcr : cap = s.l.length
   ·go_wp2_with fail
    refine wp_loop_rounds 1 ?_
    rw [rounds_succ]
    go_wp2_with fail
    go_ret
    exact ⟨_, rfl, by rw [HZ.out]; exact (OwnBats.nil (fun b => w.heap.size ≤ b) w.heap.size w3).reads (fun b hb _ => hb) fun b hb _ => hb, F3.out⟩
   ·go_wp2_with fail
    refine wp_loop_rounds 1 ?_
    rw [rounds_succ]
    go_wp2_with fail
    go_ret
    exact ⟨_, rfl, by rw [HZ.out]; exact (OwnBats.nil (fun b => w.heap.size ≤ b) w.heap.size w3).reads (fun b hb _ => hb) fun b hb _ => hb, F3.out⟩
end Go.Proofs.YtdlnafhhkpklmaaGreatDoor
