/- Laws. -/
import GoSem.Conv.FloatToInt
import GoSem.Conv.IntToFloat
import Derived.Test.YtdlnafhhkpklmaaGreatDoorY3
import Derived.Test.YtdlnafhhkpklmaaGreatDoorY1
import Derived.WalkKit
namespace Go.Flot
open Ieee
theorem log2_bd {m : Nat} (hm : m ≠ 0) : 2 ^ m.log2 ≤ m ∧ m < 2 ^ (m.log2 + 1) := ⟨Nat.log2_self_le hm, Nat.lt_log2_self⟩
theorem f64_back (m : Nat) (hm : m < 2 ^ 52) : (FloatKind.f64.decode (FloatKind.f64.nearest (m : Int))).toInt .zero = some (m : Int) := by
 by_cases h0 : m = 0
 ·subst h0; decide
 ·obtain ⟨l1, l2⟩ := log2_bd h0
  have hl : m.log2 < 52 := by
   rcases Nat.lt_or_ge m.log2 52 with h | h
   ·exact h
   ·have := Nat.pow_le_pow_right (n := 2) (by omega) h; omega
  obtain ⟨L, hL⟩ : ∃ L, L = m.log2 := ⟨_, rfl⟩
  rw [← hL] at l1 l2 hl
  have hk : m * 2 ^ (52 - L) < 2 ^ 53 := by
   have : m * 2 ^ (52 - L) < 2 ^ (L + 1) * 2 ^ (52 - L) := Nat.mul_lt_mul_of_pos_right l2 (Nat.two_pow_pos _)
   rw [← Nat.pow_add, show L + 1 + (52 - L) = 53 by omega] at this; exact this
  have hk2 : 2 ^ 52 ≤ m * 2 ^ (52 - L) := by
   have : 2 ^ L * 2 ^ (52 - L) ≤ m * 2 ^ (52 - L) := Nat.mul_le_mul_right _ l1
   rw [← Nat.pow_add, show L + (52 - L) = 52 by omega] at this; exact this
  obtain ⟨K, hK⟩ : ∃ K, K = m * 2 ^ (52 - L) := ⟨_, rfl⟩
  rw [← hK] at hk hk2
  have e1 : FloatKind.f64.nearest (m : Int) = (L + 1022) * 2 ^ 52 + K := by
   have hneg : decide ((m : Int) < 0) = false := by simp
   simp only [FloatKind.nearest, FloatKind.encode, FloatKind.format, Format.write, Format.nearest, hneg, Int.natAbs_natCast, h0, if_false, ← hL]
   have a1 : max ((0 : Int) + (L : Int) - (double.fractionBits : Int)) double.leastPlace = (L : Int) - 52 := by
    show max ((0 : Int) + (L : Int) - 52) (-1074) = _
    omega
   rw [a1]
   have a2 : ((0 : Int) - ((L : Int) - 52)).toNat = 52 - L := by omega
   have a3 : (((L : Int) - 52) - 0).toNat = 0 := by omega
   rw [a2, a3]
   have a4 : Toward.even.cut false (m <<< (52 - L)) 0 = K := by
    simp [Toward.cut, Nat.shiftLeft_eq, Nat.mod_one, ← hK]
   rw [a4]
   have a5 : ((L : Int) - 52 - double.leastPlace).toNat = L + 1022 := by
    show ((L : Int) - 52 - (-1074)).toNat = _
    omega
   rw [a5]
   have s1 : double.binade = 2 ^ 52 := by simp [Format.binade, double]
   have s2 : double.infRung = 2047 * 2 ^ 52 := by simp [Format.infRung, Format.binade, double]
   simp only [Format.word, Bool.false_eq_true, if_false, s1, s2]
   exact Nat.min_eq_left (by omega)
  have e2 : FloatKind.f64.decode ((L + 1022) * 2 ^ 52 + K) = .number false K ((L : Int) - 52) := by
   show Format.read double _ = _
   have b0 : ((L + 1022) * 2 ^ 52 + K) < 2 ^ 63 := by omega
   have b1 : ((L + 1022) * 2 ^ 52 + K) / 2 ^ 63 % 2 = 0 := by rw [Nat.div_eq_of_lt b0]
   have b2 : ((L + 1022) * 2 ^ 52 + K) % 2 ^ 63 = (L + 1022) * 2 ^ 52 + K := Nat.mod_eq_of_lt b0
   have b3 : ((L + 1022) * 2 ^ 52 + K) / 2 ^ 52 = L + 1023 := by omega
   have b4 : ((L + 1022) * 2 ^ 52 + K) % 2 ^ 52 = K - 2 ^ 52 := by omega
   have s1 : double.signWeight = 2 ^ 63 := by simp [Format.signWeight, double]
   have s2 : double.binade = 2 ^ 52 := by simp [Format.binade, double]
   have s3 : double.infRung = 2047 * 2 ^ 52 := by simp [Format.infRung, Format.binade, double]
   have s4 : double.leastPlace = -1074 := by simp [Format.leastPlace, double]
   simp only [Format.read, s1, s2, s3, s4, b1, b2]
   rw [if_neg (by omega), if_pos (by omega), b3, b4]
   have b5 : 2 ^ 52 + (K - 2 ^ 52) = K := by omega
   have b6 : (-1074 + ((L + 1023 - 1 : Nat) : Int)) = (L : Int) - 52 := by omega
   rw [b5, b6]
   rfl
  rw [e1, e2]
  have c1 : ((L : Int) - 52).toNat = 0 := by omega
  have c2 : (-((L : Int) - 52)).toNat = 52 - L := by omega
  have hlk : K.log2 = 52 := by
   have h3 := Nat.log2_self_le (n := K) (by omega)
   have h4 := Nat.lt_log2_self (n := K)
   have : ¬ K.log2 < 52 := by
    intro h
    have := Nat.pow_le_pow_right (n := 2) (by omega) (show K.log2 + 1 ≤ 52 by omega)
    omega
   have : ¬ 52 < K.log2 := by
    intro h
    have := Nat.pow_le_pow_right (n := 2) (by omega) (show 53 ≤ K.log2 by omega)
    omega
   omega
  simp only [Datum.toInt, Datum.integral, c1, c2, Nat.shiftLeft_zero, Toward.cut, hlk]
  have d1 : min (52 - L) (52 + 2) = 52 - L := by omega
  rw [d1, Nat.one_shiftLeft, hK, Nat.mul_div_cancel _ (Nat.two_pow_pos _)]
  simp [Ieee.signed]
end Go.Flot
/- The index as the walks see it: its cells, what its two lists hold. -/
namespace Go.Proofs.YtdlnafhhkpklmaaGreatDoor
open Go.RowKit Go.Fm
structure E where
 o : Nat
 p : Nat
 t : Nat
structure Ix where
 every : Nat
 es : List E
 any : Bool
 lo : Nat
 lp : Nat
 lat : Nat
def big : Nat := 1099511627776
def near (n : Nat) : Nat := FloatKind.f64.nearest n
abbrev spotV (o p : Nat) : Value := .complex .f64 (near o) (near p)
def spots (es : List E) : List Value := es.map fun e => spotV e.o e.p
def tms (es : List E) : List Value := es.map fun e => .int .i64 e.t
def ixCells (every : Nat) (sp tm : Value) (any : Bool) (lo lp : Nat) (latest : Nat) : Array Value := #[.int .i64 every, sp, tm, .bool any, spotV lo lp, .int .i64 latest]
structure Ix.repV (B : Nat) (w : World) (b : Nat) (x : Ix) (sp tm : Value) : Prop where
 hb : w.heap[b]? = some (.cells (ixCells x.every sp tm x.any x.lo x.lp x.lat) 172 (0, 0))
 hs : w.ownsRow B 170 1 sp x.es.length (spots x.es)
 ht : w.ownsRow B 3 1 tm x.es.length (tms x.es)
 hB : B ≤ b
 sb : sp.ownBlock ≠ some b
 tb : tm.ownBlock ≠ some b
 st : ∀ k, sp.ownBlock = some k → tm.ownBlock ≠ some k
def foot (b : Nat) (sp tm : Value) (k : Nat) : Prop := k = b ∨ sp.ownBlock = some k ∨ tm.ownBlock = some k
/-- Block b is the index x; its blocks are those of S. -/
def Ix.rep (B : Nat) (w : World) (b : Nat) (x : Ix) (S : Nat → Prop) : Prop := ∃ sp tm, Ix.repV B w b x sp tm ∧ ∀ k, S k ↔ foot b sp tm k
theorem Ix.repV.kept {B : Nat} {w w' : World} {b : Nat} {x : Ix} {sp tm : Value} (h : Ix.repV B w b x sp tm) (hk : ∀ k, foot b sp tm k → w'.heap[k]? = w.heap[k]?) : Ix.repV B w' b x sp tm :=
 ⟨(hk b (.inl rfl)).trans h.hb, own_eq h.hs fun k hs => hk k (.inr (.inl hs)), own_eq h.ht fun k ht => hk k (.inr (.inr ht)), h.hB, h.sb, h.tb, h.st⟩
theorem Ix.rep.kept {B : Nat} {w w' : World} {b : Nat} {x : Ix} {S : Nat → Prop} (h : Ix.rep B w b x S) (hk : ∀ k, S k → w'.heap[k]? = w.heap[k]?) : Ix.rep B w' b x S := by
 obtain ⟨sp, tm, h1, h2⟩ := h
 exact ⟨sp, tm, h1.kept fun k hf => hk k ((h2 k).2 hf), h2⟩
theorem Ix.rep.lt {B : Nat} {w : World} {b : Nat} {x : Ix} {S : Nat → Prop} (h : Ix.rep B w b x S) {k : Nat} (hk : S k) : B ≤ k ∧ k < w.heap.size := by
 obtain ⟨sp, tm, h1, h2⟩ := h
 rcases (h2 k).1 hk with rfl | h3 | h3
 ·exact ⟨h1.hB, lt_of_heap h1.hb⟩
 ·exact own_lt h1.hs h3
 ·exact own_lt h1.ht h3
/-- What Add has taken: numbers within the bounds; something was added just if there is an entry. -/
structure Ix.ok (x : Ix) : Prop where
 e1 : 1 ≤ x.every
 e2 : x.every ≤ 1000000
 lo : x.lo ≤ big
 lp : x.lp ≤ big
 es : ∀ e ∈ x.es, e.o ≤ big ∧ e.p ≤ big ∧ e.t ≤ big
 lat : x.lat ≤ big
 any : x.any = !x.es.isEmpty
/-- Where the two appends of Add stand. -/
structure A8 (S0 : Nat → Prop) (w : World) (B b : Nat) (cells : Array Value) (sp : Value) (n : Nat) (xs : List Value) (tm : Value) (m : Nat) (ys : List Value) (w' : World) : Prop where
 hb : w'.heap[b]? = some (.cells cells 172 (0, 0))
 hs : w'.ownsRow B 170 1 sp n xs
 ht : w'.ownsRow B 3 1 tm m ys
 fr : Fr S0 w w'
 bs : S0 b
 bw : b < w.heap.size
 Bw : B ≤ w.heap.size
 sb : sp.ownBlock ≠ some b
 tb : tm.ownBlock ≠ some b
 st : ∀ k, sp.ownBlock = some k → tm.ownBlock ≠ some k
 ss : ∀ k, sp.ownBlock = some k → S0 k ∨ w.heap.size ≤ k
 ts : ∀ k, tm.ownBlock = some k → S0 k ∨ w.heap.size ≤ k
section
variable {S0 : Nat → Prop} {w : World} {B b : Nat} {cells : Array Value} {sp : Value} {n : Nat} {xs : List Value} {tm : Value} {m : Nat} {ys : List Value} {w' : World}
theorem A8.alloc (h : A8 S0 w B b cells sp n xs tm m ys w') (o : Obj) : A8 S0 w B b cells sp n xs tm m ys (w'.alloc o) :=
 ⟨by rw [heap_alloc_lt o (lt_of_heap h.hb)]; exact h.hb, h.hs.alloc o, h.ht.alloc o, h.fr.alloc o, h.bs, h.bw, h.Bw, h.sb, h.tb, h.st, h.ss, h.ts⟩
theorem A8.drew (h : A8 S0 w B b cells sp n xs tm m ys w') : A8 S0 w B b cells sp n xs tm m ys w'.drew := ⟨h.hb, h.hs, h.ht, h.fr.drew, h.bs, h.bw, h.Bw, h.sb, h.tb, h.st, h.ss, h.ts⟩
theorem A8.drewN (h : A8 S0 w B b cells sp n xs tm m ys w') (k : Nat) : A8 S0 w B b cells sp n xs tm m ys (w'.drewN k) := ⟨h.hb, h.hs, h.ht, h.fr.drewN k, h.bs, h.bw, h.Bw, h.sb, h.tb, h.st, h.ss, h.ts⟩
theorem A8.size (h : A8 S0 w B b cells sp n xs tm m ys w') : B ≤ w'.heap.size := Nat.le_trans h.Bw h.fr.size
theorem A8.app1 (h : A8 S0 w B b cells sp n xs tm m ys w') {v : Value} {w1 : World} {n' : Nat} {zs : List Value} (ho : w1.ownsRow B 170 1 v n' zs) (hg : w'.grownBy w1 sp.ownBlock) (hv : v.ownBlock = sp.ownBlock ∨ v.ownBlock = some w'.heap.size) :
  A8 S0 w B b cells v n' zs tm m ys w1 := by
 have hbl := lt_of_heap h.hb
 have hsz := h.fr.size
 refine ⟨(hg.block b hbl (fun e => h.sb e.symm)).trans h.hb, ho, own_eq h.ht fun k hk => hg.block k (own_lt h.ht hk).2 (fun e => h.st k e.symm hk), h.fr.grown hg h.ss, h.bs, h.bw, h.Bw, ?_, h.tb, ?_, ?_, h.ts⟩
 ·rcases hv with e | e <;> rw [e]
  ·exact h.sb
  ·intro e; injection e with e; omega
 ·intro k hk ht
  rcases hv with e | e <;> rw [e] at hk
  ·exact h.st k hk ht
  ·injection hk with hk; have := (own_lt h.ht ht).2; omega
 ·intro k hk
  rcases hv with e | e <;> rw [e] at hk
  ·exact h.ss k hk
  ·injection hk with hk; exact .inr (by omega)
theorem A8.app2 (h : A8 S0 w B b cells sp n xs tm m ys w') {v : Value} {w1 : World} {n' : Nat} {zs : List Value} (ho : w1.ownsRow B 3 1 v n' zs) (hg : w'.grownBy w1 tm.ownBlock) (hv : v.ownBlock = tm.ownBlock ∨ v.ownBlock = some w'.heap.size) :
  A8 S0 w B b cells sp n xs v n' zs w1 := by
 have hbl := lt_of_heap h.hb
 have hsz := h.fr.size
 refine ⟨(hg.block b hbl (fun e => h.tb e.symm)).trans h.hb, own_eq h.hs fun k hk => hg.block k (own_lt h.hs hk).2 (fun e => h.st k hk e.symm), ho, h.fr.grown hg h.ts, h.bs, h.bw, h.Bw, h.sb, ?_, ?_, h.ss, ?_⟩
 ·rcases hv with e | e <;> rw [e]
  ·exact h.tb
  ·intro e; injection e with e; omega
 ·intro k hk ht
  rcases hv with e | e <;> rw [e] at ht
  ·exact h.st k hk ht
  ·injection ht with ht; have := (own_lt h.hs hk).2; omega
 ·intro k hk
  rcases hv with e | e <;> rw [e] at hk
  ·exact h.ts k hk
  ·injection hk with hk; exact .inr (by omega)
/-- A cell of a block made for the call stays behind an append elsewhere. -/
theorem cell_grown {w w1 : World} {row : Option Nat} (hg : w.grownBy w1 row) {p : Addr} {v : Value} (hc : w.cell? p = some v) (hn : row ≠ some p.block) : w1.cell? p = some v :=
 hg.cell hc (fun e => hn e.symm)
/-- The two stores at the end. -/
theorem A8.done {every lo lp lat : Nat} {s0 t0 : Value} (h : A8 S0 w B b (ixCells every s0 t0 true lo lp lat) sp n xs tm m ys w') (hB : B ≤ b) {es : List E} (hx : xs = spots es) (hy : ys = tms es) (hn : n = es.length) (hm : m = es.length) :
  ∃ S', Ix.rep B ((w'.setCell ⟨b, 1, none⟩ sp).setCell ⟨b, 2, none⟩ tm) b ⟨every, es, true, lo, lp, lat⟩ S' ∧ (∀ k, S' k → S0 k ∨ w.heap.size ≤ k) ∧ Fr S0 w ((w'.setCell ⟨b, 1, none⟩ sp).setCell ⟨b, 2, none⟩ tm) := by
 subst hx hy hn hm
 refine ⟨foot b sp tm, ⟨sp, tm, ⟨?_, ?_, ?_, hB, h.sb, h.tb, h.st⟩, fun k => Iff.rfl⟩, ?_, ?_⟩
 ·rw [heap_setCell_self (heap_setCell_self h.hb _) _]; rfl
 ·exact own_eq h.hs fun k hk => by
   have hne : k ≠ b := fun e => h.sb (e ▸ hk)
   rw [heap_setCell_ne _ hne, heap_setCell_ne _ hne]
 ·exact own_eq h.ht fun k hk => by
   have hne : k ≠ b := fun e => h.tb (e ▸ hk)
   rw [heap_setCell_ne _ hne, heap_setCell_ne _ hne]
 ·rintro k (rfl | hk | hk)
  ·exact .inl h.bs
  ·exact h.ss k hk
  ·exact h.ts k hk
 ·exact Fr.setCell (p := ⟨b, 2, none⟩) (Fr.setCell (p := ⟨b, 1, none⟩) h.fr (.inl h.bs) sp) (.inl h.bs) tm
end
theorem near_back (n : Nat) (h : n ≤ big) : (FloatKind.f64.decode (near n)).toInt .zero = some (n : Int) := Go.Flot.f64_back n (by unfold big at h; omega)
end Go.Proofs.YtdlnafhhkpklmaaGreatDoor
