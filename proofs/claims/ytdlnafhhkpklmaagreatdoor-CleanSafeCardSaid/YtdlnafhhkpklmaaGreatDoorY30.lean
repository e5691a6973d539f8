/- Open of a segment: the walk. -/
import Derived.Test.YtdlnafhhkpklmaaGreatDoorY29
namespace Go.Proofs.YtdlnafhhkpklmaaGreatDoor
open Go.RowKit Go.Fm Go.BigFrame Go.Shelf Go.Maps
set_option linter.unusedVariables false
set_option linter.unusedSimpArgs false
set_option maxRecDepth 100000
theorem near_zero : near 0 = 0 := by kernel_rfl
theorem inew_yes (n : Int) (w : World) (h1 : 1 ≤ n) (h2 : n ≤ 1000000) (B : Nat) (hB : B ≤ w.heap.size) :
  Calls Tryz.prog 80 #[.int .i64 n] w fun e w' => e = .returned (.tuple #[.pointer (some ⟨w.heap.size, 0, none⟩), .int .i64 0]) ∧ Fr (fun _ => False) w w' ∧ w'.heap.size = w.heap.size + 1 ∧ Ix.rep B w' w.heap.size (ixNew n.toNat) (fun k => k = w.heap.size) := by
 refine (new_walk n w h1 h2).mono ?_
 rintro e w' ⟨rfl, rfl⟩
 refine ⟨rfl, (Fr.refl _ w).alloc _, by simp, ?_⟩
 refine ⟨.slice none 0 0, .slice none 0 0, ⟨?_, World.ownsRow_nil _ _ _ _, World.ownsRow_nil _ _ _ _, hB, by simp [Value.ownBlock], by simp [Value.ownBlock], by simp [Value.ownBlock]⟩, fun k => by simp [foot, Value.ownBlock]⟩
 rw [heap_alloc_self]
 have hn : ((n.toNat : Nat) : Int) = n := by omega
 simp only [ixCells, ixNew, hn, near_zero]
 rfl
/-- No batch is decoded at a place. -/
def NoBat (s : ByteArray) (p : Nat) : Prop := ∀ w : World, StepsOK w → Calls Tryz.prog 81 #[.string s, .int .i64 p] w (BTornPost w)
theorem noBat_torn {s : ByteArray} {p : Nat} (h : Torn s p) (hs : s.size ≤ 1000000000) : NoBat s p := fun w _ => bdecode_torn s p h w hs
/-- The batches of a text, each behind the one ahead, from a place on; where they end. -/
inductive Scan (s : ByteArray) : Nat → Int → List Bat → Nat → Prop
 | stop (p : Nat) (e : Int) (h : NoBat s p) (hp : p ≤ s.size) : Scan s p e [] p
 | low (p : Nat) (e : Int) (b : Bat) (hb : BatOK b) (hI : BatIs s p b) (hlt : b.base < e) : Scan s p e [] p
 | next (p : Nat) (e : Int) (b : Bat) (l : List Bat) (q : Nat) (hb : BatOK b) (hI : BatIs s p b) (hge : e ≤ b.base) (h : Scan s (p + bsz b) (b.base + b.span) l q) : Scan s p e (b :: l) q
theorem Scan.at' {s : ByteArray} {p : Nat} {e : Int} {l : List Bat} {q : Nat} (h : Scan s p e l q) : q = p + sumB l ∧ q ≤ s.size ∧ Chn e l := by
 induction h with
 | stop p e h hp => exact ⟨by simp [sumB], hp, .nil _⟩
 | low p e b hb hI hlt => exact ⟨by simp [sumB], by have := hI.room; omega, .nil _⟩
 | next p e b l q hb hI hge h ih => exact ⟨by rw [ih.1, sumB_cons]; omega, ih.2.1, .cons hb hge ih.2.2⟩
def OpenPost (B : Nat) (w : World) (db mb : Nat) (nm : ByteArray) (base every : Nat) (room used fuse : Int) (L : List Row) (F : ByteArray → ByteArray × Nat) (t : ByteArray) (m : Nat) (l : List Bat) (q : Nat) (e : Ending) (w' : World) : Prop :=
 ∃ (sb : Nat) (S' : Nat → Prop), e = .returned (.tuple #[.pointer (some ⟨sb, 0, none⟩), .int .i64 0]) ∧ Sg B w' sb db nm ⟨base, every, l⟩ S' ∧ (∀ i, S' i → w.heap.size ≤ i ∧ i < w'.heap.size) ∧
  (q < t.size → Dk w' db mb room (used - (t.size - q)) (burn fuse) L (updF F nm (t.extract 0 q) (min m q))) ∧ (¬ q < t.size → Dk w' db mb room used fuse L F) ∧ Fr (DkS db mb L) w w'
/-- Between two batches. -/
structure OpMid (B : Nat) (w : World) (sb db : Nat) (nm : ByteArray) (base every : Nat) (t : ByteArray) (l : List Bat) (q : Nat) (l1 l2 : List Bat) (wr : World) : Prop where
 eq : l = l1 ++ l2
 sg : ∃ S', Sg B wr sb db nm ⟨base, every, l1⟩ S' ∧ ∀ i, S' i → w.heap.size ≤ i ∧ i < wr.heap.size
 sc : Scan t (sumB l1) (endOf base l1) l2 q
 fr : Fr (fun _ => False) w wr
theorem Scan.inv {s : ByteArray} {p : Nat} {e : Int} {l : List Bat} {q : Nat} (h : Scan s p e l q) : (l = [] ∧ NoBat s p) ∨ (l = [] ∧ ∃ b, BatOK b ∧ BatIs s p b ∧ b.base < e) ∨ ∃ b l', l = b :: l' ∧ BatOK b ∧ BatIs s p b ∧ e ≤ b.base ∧ Scan s (p + bsz b) (b.base + b.span) l' q := by
 cases h with
 | stop p e h hp => exact .inl ⟨rfl, h⟩
 | low p e b hb hI hlt => exact .inr (.inl ⟨rfl, b, hb, hI, hlt⟩)
 | next p e b l q hb hI hge h => exact .inr (.inr ⟨b, l, rfl, hb, hI, hge, h⟩)
theorem Sg.made {B : Nat} {w2 : World} {ib : Nat} (db : Nat) (nm : ByteArray) (base every : Nat) (hix : Ix.rep B w2 ib (ixNew every) (fun k => k = ib)) (hsz : w2.heap.size = ib + 1) (hB : B ≤ ib) (he1 : 1 ≤ every) (he2 : every ≤ 1000000) (hb : base ≤ 1099511627776) :
  Sg B (w2.alloc (.cells #[.pointer (some ⟨db, 0, none⟩), .string nm, .int .i64 base, .int .i64 base, .int .i64 0, .slice none 0 0, .pointer (some ⟨ib, 0, none⟩)] 138)) w2.heap.size db nm ⟨base, every, []⟩ (fun i => i = w2.heap.size ∨ i = ib) := by
 refine ⟨.slice none 0 0, ib, fun _ => False, fun k => k = ib, ⟨?_, OwnKeps.nil _ _ _, ?_, fun _ h => h.elim, by omega, fun h => h, fun h => by omega, by simp [Value.ownBlock], by simp [Value.ownBlock], fun _ h => h.elim⟩, ⟨he1, he2, hb, .nil _, by simp, by simp [sumB]⟩, fun k hk => ?_⟩
 ·rw [heap_alloc_self]; rfl
 ·exact hix.kept fun k hk => heap_alloc_lt _ (by omega)
 ·rcases hk with h | h | h | h
  ·exact .inl h
  ·simp [Value.ownBlock] at h
  ·exact h.elim
  ·exact .inr h
set_option maxHeartbeats 16000000 in
theorem sopen_some {B : Nat} {w : World} {db mb : Nat} {room used fuse : Int} {L : List Row} {F : ByteArray → ByteArray × Nat} (hd : Dk w db mb room used fuse L F) (ho : DkOK room used fuse L F) (hfu : fuse ≠ 0) (nm : ByteArray) (h1 : 1 ≤ nm.size) (h2 : nm.size ≤ 40) (base every : Nat) (hb : base ≤ 1099511627776) (he1 : 1 ≤ every) (he2 : every ≤ 1000000)
  {fb : Nat} (hg : getL L nm = some fb) (t : ByteArray) (m : Nat) (hFn : F nm = (t, m)) (hts : t.size ≤ 900000000) (l : List Bat) (q : Nat) (hsc : Scan t 0 base l q) (hst : StepsOK w) (hl : l.length ≤ 800) (hB : B ≤ w.heap.size) (hw0 : 1 ≤ w.heap.size) :
  Calls Tryz.prog 51 #[.pointer (some ⟨db, 0, none⟩), .string nm, .int .i64 base, .int .i64 every] w (OpenPost B w db mb nm base every room used fuse L F t m l q) := by
 have hml : nm.size ≤ maxLen := by unfold maxLen; omega
 have hat := hsc.at'
 have hq : q = sumB l := by have := hat.1; omega
 have hqs := hat.2.1
 have hch := hat.2.2
 have HI := Lib.hid (inew_yes every w (by omega) (by omega) B hB)
 have g4 : ¬ nm.toList = [] := fun h => by
  have := empty_list.2 h
  rw [this] at h1
  cases h1
 have g5 : nm.toList.isEmpty = false := by simpa using g4
 have h3 : (nm.size : Int) ≤ 40 := by omega
 have HD := Lib.hid hd
 have HO := Lib.hid ho
 have HSC := Lib.hid hsc
 have HST := Lib.hid hst
 have HCH := Lib.hid hch
 have HQ := Lib.hid hq
 clear hd ho hsc hst hat hq hch
 go_enter Tryz.func51, Tryz.ntmps51
 go_wp2_with fail
 refine HI.out.mono ?_
 rintro e w1 ⟨rfl, hf1, hsz1, hix1⟩
 have F1 := Lib.hid hf1
 have IX1 := Lib.hid hix1
 have SZ1 := Lib.hid hsz1
 clear hf1 hsz1 hix1 HI
 go_wp2_with fail
 refine (dread_some (HD.out.old F1.out) hfu nm hml hg).mono ?_
 rw [hFn]
 rintro e w2 ⟨rfl, rfl⟩
 go_wp2_with fail
 have hnat : ((every : Int).toNat) = every := Int.toNat_natCast every
 rw [hnat] at IX1
 have MADE := Lib.hid (Sg.made db nm base every IX1.out SZ1.out hB he1 he2 hb)
 have FM := Lib.hid (F1.out.alloc (.cells #[.pointer (some ⟨db, 0, none⟩), .string nm, .int .i64 base, .int .i64 base, .int .i64 0, .slice none 0 0, .pointer (some ⟨w.heap.size, 0, none⟩)] 138))
 have SM := Lib.hid (show (w2.alloc (.cells #[.pointer (some ⟨db, 0, none⟩), .string nm, .int .i64 base, .int .i64 base, .int .i64 0, .slice none 0 0, .pointer (some ⟨w.heap.size, 0, none⟩)] 138)).heap.size = w2.heap.size + 1 by simp)
 clear hnat F1 IX1
 generalize (w2.alloc (.cells #[.pointer (some ⟨db, 0, none⟩), .string nm, .int .i64 base, .int .i64 base, .int .i64 0, .slice none 0 0, .pointer (some ⟨w.heap.size, 0, none⟩)] 138)) = W3 at *
 have hmid : OpMid B w w2.heap.size db nm base every t l q [] l W3 := ⟨rfl, ⟨_, MADE.out, fun i hi => by have := SM.out; have := SZ1.out; rcases hi with rfl | rfl <;> exact ⟨by omega, by omega⟩⟩, HSC.out, FM.out⟩
 have MID := Lib.hid hmid
 clear hmid MADE FM SM SZ1
 generalize w2.heap.size = sb at *
 go_loopw [15] (fun _ wr => ∃ l1 l2, OpMid B w sb db nm base every t l q l1 l2 wr) (fun _ wr => t.size + 1 - (intOf ((wr.cell? ⟨sb, 4, none⟩).getD undef)).toNat)
 case atStart => exact ⟨[], l, MID.out⟩
 case round =>
  obtain ⟨l1, l2, hm⟩ := hrel
  clear MID
  obtain ⟨S', hsg, hS'⟩ := hm.sg
  obtain ⟨bv, ib, hbx⟩ := hsg.cells
  have c4 : wr.cell? ⟨sb, 4, none⟩ = some (.int .i64 (sumB l1)) := (cell_of hbx 4).trans rfl
  have hmeq := hm.eq
  have hsl : sumB l = sumB l1 + sumB l2 := by rw [hmeq]; simp [sumB]
  have hll : l.length = l1.length + l2.length := by rw [hmeq, List.length_append]
  have SG := Lib.hid hsg
  have SL := Lib.hid hS'
  have BX := Lib.hid hbx
  have FR := Lib.hid hm.fr
  have HSL := Lib.hid hsl
  have HLL := Lib.hid hll
  have HEQ := Lib.hid hmeq
  rcases hm.sc.inv with ⟨rfl, hno⟩ | ⟨rfl, b, hbok, hbi, hlow⟩ | ⟨b, l', rfl, hbok, hbi, hge, hsc'⟩
  ·have HNO := Lib.hid (hno wr (HST.out.old FR.out))
   clear hm hsg hS' hbx hmeq hsl hll hno
   go_wp2_with fail
   refine HNO.out.mono ?_
   rintro e w4 ⟨c, hc, rfl, hf4⟩
   have q1 : (c != 0) = true := by simpa using hc
   have F4 := Lib.hid (hf4.alloc (.cells (batBox ⟨0, 0, 0, 0, 0, []⟩ (.slice none 0 0)) 36))
   clear hf4 hc c4
   unfold batZV
   unfold batBox at F4
   go_wp2_with fail
   go_quiet (fail)
   have F5 := Lib.hid (F4.out.drewN nq)
   clear F4
   generalize (w4.alloc (.cells #[.int .i64 0, .int .i64 0, .int .i64 0, .int .i64 0, .int .i64 0, .slice none 0 0] 36)).drewN nq = wx at *
   have HSG := Lib.hid (SG.out.old F5.out)
   have SL2 := Lib.hid (fun i (hi : S' i) => (⟨(SL.out i hi).1, Nat.lt_of_lt_of_le (SL.out i hi).2 F5.out.size⟩ : w.heap.size ≤ i ∧ i < wx.heap.size))
   have FX := Lib.hid (FR.out.tr F5.out)
   have e : l = l1 := by have := HEQ.out; rwa [List.append_nil] at this
   subst e
   clear SL
   have SL := SL2
   have hcx := HSG.out.cells
   obtain ⟨bvx, ibx, hbx⟩ := hcx
   have cx : wx.cell? ⟨sb, 4, none⟩ = some (.int .i64 (sumB l)) := (cell_of hbx 4).trans rfl
   clear hbx
   rw [← HQ.out] at cx
   by_cases hcut : q < t.size
   ·have HCUT := Lib.hid (dcut_walk (HD.out.old FX.out) hfu HO.out.fw nm hml hg t m q hFn (by omega) (by omega) HO.out.u0 HO.out.u1 (by have := (HO.out.fs _ (getL_some hg)).2; rw [hFn] at this; dsimp only at this; omega))
    have HSGX := Lib.hid (fun w9 (h : Fr (DkS db mb L) wx w9) => HSG.out.fr h fun i hi hd => by have h1 := (SL.out i hi).1; have h2 := HD.out.lt hd; omega)
    have HC := Lib.hid hcut
    have hci : (q : Int) < t.size := by omega
    clear hcut
    go_wp2_with fail
    refine HCUT.out.mono ?_
    rintro e w9 ⟨rfl, hd9, hf9⟩
    have D9 := Lib.hid hd9
    have F9 := Lib.hid hf9
    clear hd9 hf9 HCUT cx
    go_wp2_with fail
    go_ret2
    exact ⟨sb, S', rfl, HSGX.out _ F9.out, fun i hi => ⟨(SL.out i hi).1, Nat.lt_of_lt_of_le (SL.out i hi).2 F9.out.size⟩, fun _ => D9.out, fun h => (h HC.out).elim, (FX.out.mono (S' := DkS db mb L) fun _ h => h.elim).trans F9.out fun _ h => .inl h⟩
   ·have HC := Lib.hid hcut
    have hci : ¬ (q : Int) < t.size := by omega
    clear hcut
    go_wp2_with fail
    go_ret2
    exact ⟨sb, S', rfl, HSG.out, SL.out, fun h => (HC.out h).elim, fun _ => HD.out.old FX.out, FX.out.mono fun _ h => h.elim⟩
  ·have HNO := Lib.hid (bdecode_ok t (sumB l1) b hbok hbi wr (by omega) (HST.out.old FR.out))
   have d3 : wr.cell? ⟨sb, 3, none⟩ = some (.int .i64 (endOf base l1)) := (cell_of hbx 3).trans rfl
   have hb0 := hbok.base0
   have hb1 := hbok.base1
   have D3 := Lib.hid d3
   clear hm hsg hS' hbx hmeq hsl hll hbok hbi d3
   go_wp2_with fail
   refine HNO.out.mono ?_
   rintro e w4 ⟨rv, rfl, hr4, hone, hf4⟩
   obtain ⟨ra, rcap, rfl, -⟩ := hr4
   have F4 := Lib.hid (hf4.alloc (.cells (batBox b (.slice ra b.recs.length rcap)) 36))
   have d0 : (w4.alloc (.cells (batBox b (.slice ra b.recs.length rcap)) 36)).cell? ⟨w4.heap.size, 0, none⟩ = some (.int .i64 b.base) := cell_alloc_new w4 _ 36 0
   have d3 := F4.out.cel D3.out
   clear hf4 c4 D3 HNO
   unfold batV
   unfold batBox at F4 d0 d3
   go_wp2_with fail
   go_quiet (fail)
   have F5 := Lib.hid (F4.out.drewN nq)
   clear F4 d0 d3
   generalize (w4.alloc (.cells #[.int .i64 b.base, .int .i64 b.span, .int .i64 b.prod, .int .i64 b.epoch, .int .i64 b.seq, .slice ra b.recs.length rcap] 36)).drewN nq = wx at *
   have HSG := Lib.hid (SG.out.old F5.out)
   have SL2 := Lib.hid (fun i (hi : S' i) => (⟨(SL.out i hi).1, Nat.lt_of_lt_of_le (SL.out i hi).2 F5.out.size⟩ : w.heap.size ≤ i ∧ i < wx.heap.size))
   have FX := Lib.hid (FR.out.tr F5.out)
   have e : l = l1 := by have := HEQ.out; rwa [List.append_nil] at this
   subst e
   clear SL
   have SL := SL2
   have hcx := HSG.out.cells
   obtain ⟨bvx, ibx, hbx⟩ := hcx
   have cx : wx.cell? ⟨sb, 4, none⟩ = some (.int .i64 (sumB l)) := (cell_of hbx 4).trans rfl
   clear hbx
   rw [← HQ.out] at cx
   by_cases hcut : q < t.size
   ·have HCUT := Lib.hid (dcut_walk (HD.out.old FX.out) hfu HO.out.fw nm hml hg t m q hFn (by omega) (by omega) HO.out.u0 HO.out.u1 (by have := (HO.out.fs _ (getL_some hg)).2; rw [hFn] at this; dsimp only at this; omega))
    have HSGX := Lib.hid (fun w9 (h : Fr (DkS db mb L) wx w9) => HSG.out.fr h fun i hi hd => by have h1 := (SL.out i hi).1; have h2 := HD.out.lt hd; omega)
    have HC := Lib.hid hcut
    have hci : (q : Int) < t.size := by omega
    clear hcut
    go_wp2_with fail
    refine HCUT.out.mono ?_
    rintro e w9 ⟨rfl, hd9, hf9⟩
    have D9 := Lib.hid hd9
    have F9 := Lib.hid hf9
    clear hd9 hf9 HCUT cx
    go_wp2_with fail
    go_ret2
    exact ⟨sb, S', rfl, HSGX.out _ F9.out, fun i hi => ⟨(SL.out i hi).1, Nat.lt_of_lt_of_le (SL.out i hi).2 F9.out.size⟩, fun _ => D9.out, fun h => (h HC.out).elim, (FX.out.mono (S' := DkS db mb L) fun _ h => h.elim).trans F9.out fun _ h => .inl h⟩
   ·have HC := Lib.hid hcut
    have hci : ¬ (q : Int) < t.size := by omega
    clear hcut
    go_wp2_with fail
    go_ret2
    exact ⟨sb, S', rfl, HSG.out, SL.out, fun h => (HC.out h).elim, fun _ => HD.out.old FX.out, FX.out.mono fun _ h => h.elim⟩
  ·have HNO := Lib.hid (bdecode_ok t (sumB l1) b hbok hbi wr (by omega) (HST.out.old FR.out))
   have d3 : wr.cell? ⟨sb, 3, none⟩ = some (.int .i64 (endOf base l1)) := (cell_of hbx 3).trans rfl
   have hb0 := hbok.base0
   have hb1 := hbok.base1
   have hnlt : ¬ b.base < endOf base l1 := by omega
   have HOK := Lib.hid hbok
   have HGE := Lib.hid hge
   have HSC2 := Lib.hid hsc'
   have D3 := Lib.hid d3
   clear hm hsg hS' hbx hmeq hsl hll hbok hbi d3 hge hsc'
   go_wp2_with fail
   refine HNO.out.mono ?_
   rintro e w4 ⟨rv, rfl, hr4, hone, hf4⟩
   have hh := hr4
   obtain ⟨ra, rcap, rfl, -⟩ := hh
   have F4 := Lib.hid (hf4.alloc (.cells (batBox b (.slice ra b.recs.length rcap)) 36))
   have d0 : (w4.alloc (.cells (batBox b (.slice ra b.recs.length rcap)) 36)).cell? ⟨w4.heap.size, 0, none⟩ = some (.int .i64 b.base) := cell_alloc_new w4 _ 36 0
   have d3 := F4.out.cel D3.out
   have X4 := Lib.hid (heap_alloc_self w4 (.cells (batBox b (.slice ra b.recs.length rcap)) 36))
   have HR4 := Lib.hid ((hr4.mono (K' := fun k => wr.heap.size ≤ k ∧ k < w4.heap.size) fun k hk hl => ⟨hk, hl⟩).old ((Fr.same w4).alloc (.cells (batBox b (.slice ra b.recs.length rcap)) 36)))
   have HF4 := Lib.hid hf4
   have S4 := Lib.hid (show (w4.alloc (.cells (batBox b (.slice ra b.recs.length rcap)) 36)).heap.size = w4.heap.size + 1 by simp)
   clear hf4 c4 D3 HNO hr4
   unfold batV
   unfold batBox at F4 d0 d3 X4 HR4 S4
   go_wp2_with fail
   go_quiet (fail)
   have F5 := Lib.hid (F4.out.drewN nq)
   have X5 := Lib.hid (show ((w4.alloc (.cells #[.int .i64 b.base, .int .i64 b.span, .int .i64 b.prod, .int .i64 b.epoch, .int .i64 b.seq, .slice ra b.recs.length rcap] 36)).drewN nq).heap[w4.heap.size]? = _ from X4.out)
   have HR5 := Lib.hid (HR4.out.old ((Fr.same (w4.alloc (.cells #[.int .i64 b.base, .int .i64 b.span, .int .i64 b.prod, .int .i64 b.epoch, .int .i64 b.seq, .slice ra b.recs.length rcap] 36))).drewN nq))
   have S5 := Lib.hid (show ((w4.alloc (.cells #[.int .i64 b.base, .int .i64 b.span, .int .i64 b.prod, .int .i64 b.epoch, .int .i64 b.seq, .slice ra b.recs.length rcap] 36)).drewN nq).heap.size = w4.heap.size + 1 from S4.out)
   clear F4 d0 d3 X4 HR4 S4
   generalize ((w4.alloc (.cells #[.int .i64 b.base, .int .i64 b.span, .int .i64 b.prod, .int .i64 b.epoch, .int .i64 b.seq, .slice ra b.recs.length rcap] 36)).drewN nq) = W at *
   have y4 : ∀ y : Lcl.InS (fun w' => Fr (fun _ => False) W w'), y.w.cell? ⟨sb, 4, none⟩ = some (.int .i64 (sumB l1)) := fun y => y.h.cel (F5.out.cel ((cell_of BX.out 4).trans rfl))
   have x0 : ∀ y : Lcl.InS (fun w' => Fr (fun _ => False) W w'), y.w.cell? ⟨w4.heap.size, 0, none⟩ = some (.int .i64 b.base) := fun y => y.h.cel ((cell_of X5.out 0).trans rfl)
   have x1 : ∀ y : Lcl.InS (fun w' => Fr (fun _ => False) W w'), y.w.cell? ⟨w4.heap.size, 1, none⟩ = some (.int .i64 b.span) := fun y => y.h.cel ((cell_of X5.out 1).trans rfl)
   have x2 : ∀ y : Lcl.InS (fun w' => Fr (fun _ => False) W w'), y.w.cell? ⟨w4.heap.size, 2, none⟩ = some (.int .i64 b.prod) := fun y => y.h.cel ((cell_of X5.out 2).trans rfl)
   have x3 : ∀ y : Lcl.InS (fun w' => Fr (fun _ => False) W w'), y.w.cell? ⟨w4.heap.size, 3, none⟩ = some (.int .i64 b.epoch) := fun y => y.h.cel ((cell_of X5.out 3).trans rfl)
   have x4 : ∀ y : Lcl.InS (fun w' => Fr (fun _ => False) W w'), y.w.cell? ⟨w4.heap.size, 4, none⟩ = some (.int .i64 b.seq) := fun y => y.h.cel ((cell_of X5.out 4).trans rfl)
   have x5 : ∀ y : Lcl.InS (fun w' => Fr (fun _ => False) W w'), y.w.cell? ⟨w4.heap.size, 5, none⟩ = some (.slice ra b.recs.length rcap) := fun y => y.h.cel ((cell_of X5.out 5).trans rfl)
   have hsc2 := HSC2.out.at'
   have hl1 : l1.length < 800 := by have := HLL.out; rw [List.length_cons] at this; omega
   have hsum9 : sumB l1 + bsz b ≤ 1000000000 := by have h9 := HSL.out; have h8 := HQ.out; rw [sumB_cons] at h9; omega
   have hbz : (batS b).size = bsz b := rfl
   rw [hbz]
   have hwr : IntKind.i64.wrap ((sumB l1 : Int) + (bsz b : Int) - (sumB l1 : Int)) = (bsz b : Int) := by
    rw [show (sumB l1 : Int) + (bsz b : Int) - (sumB l1 : Int) = (bsz b : Int) by omega]
    exact IntWalk.i64_in _ (by omega)
   have HW := Lib.hid hwr
   clear hsc2 hbz
   go_wp2_with fail
   refine Lcl.wp_region_calm (by kernel_rfl) [(true, [0, 2, 3, 4, 5]), (false, [1, 6]), (true, [7])] #[0, 0, 0, 0, 8, 24, 56, 124, 255] [0, 1, 2, 3, 4, 5, 6, 7] 1 #[true, true, true, true, true, true, true, true, false] (by kernel_rfl) (by kernel_rfl) (by kernel_rfl) (fun w' => Fr (fun _ => False) W w') (Fr.same W).drew (fun d c a v w h => by cases d <;> exact h) ?_
   simp only [Lcl.opsOf, List.map_cons, List.map_nil, List.getElem?_toArray, List.getElem?_cons_succ, List.getElem?_cons_zero, Option.getD_some]
   refine Lcl.wpCalm_t ?_
   repeat (go_big_quiet_step (rfl))
   refine wpQuiet_nil ?_
   refine Lcl.wpCalm_f ?_
   repeat (go_big_quiet_step (rfl))
   refine wpQuiet_nil ?_
   refine Lcl.wpCalm_t ?_
   repeat (go_big_quiet_step (rfl))
   refine wpQuiet_nil ?_
   refine Lcl.wpCalm_nil ?_
   clear x0 x1 x2 x3 x4 x5 y4 hwr
   refine Lcl.wpG_run [8] _ _ _ (by kernel_rfl) ?_
   simp only [List.map_cons, List.map_nil, List.getElem?_toArray, List.getElem?_cons_succ, List.getElem?_cons_zero, Option.getD_some]
   have hK : ∀ k, (wr.heap.size ≤ k ∧ k < w4.heap.size) → B ≤ k ∧ k < W.drew.heap.size ∧ ¬ S' k := fun k hk => by
    have h1 := FR.out.size
    have h2 : W.drew.heap.size = w4.heap.size + 1 := S5.out
    exact ⟨by omega, by omega, fun h => by have := (SL.out k h).2; omega⟩
   have HN := Lib.hid (note_walk (SG.out.old F5.out.drew) b (.slice ra b.recs.length rcap) _ HOK.out HGE.out (HR5.out.old (Fr.same W).drew) hK hl1 hsum9 (by have h1 := FR.out.size; have h2 := F5.out.drew.size; omega))
   clear hK
   unfold batV at HN
   go_wp2_with fail
   refine HN.out.mono ?_
   rintro e w6 ⟨rfl, hsg6, hf6⟩
   have hmid : OpMid B w sb db nm base every t l q (l1 ++ [b]) l' w6 := by
    have h1 := FR.out.size
    have h2 : W.drew.heap.size = w4.heap.size + 1 := S5.out
    have h3 := hf6.size
    have h4 := F5.out.drew.size
    refine ⟨by rw [HEQ.out, List.append_assoc]; rfl, ⟨_, hsg6, fun i hi => ?_⟩, ?_, ?_⟩
    ·rcases hi with (hi | hi) | hi
     ·have := SL.out i hi; exact ⟨this.1, by omega⟩
     ·exact ⟨by omega, by omega⟩
     ·exact ⟨by omega, by omega⟩
    ·have he : endOf (base : Int) (l1 ++ [b]) = b.base + b.span := by simp [endOf]
     rw [sumB_snoc, he]
     exact HSC2.out
    ·exact (FR.out.tr F5.out.drew).trans hf6 fun i hi => .inr (by
      rcases hi with hi | hi
      ·exact (SL.out i hi).1
      ·omega)
   obtain ⟨bv6, ib6, hb6⟩ := hsg6.cells
   have c6 : w6.cell? ⟨sb, 4, none⟩ = some (.int .i64 (sumB (l1 ++ [b]))) := (cell_of hb6 4).trans rfl
   have c9 : wr.cell? ⟨sb, 4, none⟩ = some (.int .i64 (sumB l1)) := (cell_of BX.out 4).trans rfl
   have MID2 := Lib.hid hmid
   have C6 := Lib.hid c6
   have C9 := Lib.hid c9
   clear hsg6 hf6 hmid hb6 c6 c9 HN
   go_wp2_with fail
   go_roundw
   case rel => exact ⟨_, _, MID2.out⟩
   case measure =>
    rw [C6.out, C9.out, sumB_snoc]
    have h9 := HSL.out
    have h8 := HQ.out
    have h7 := bsz_pos b
    rw [sumB_cons] at h9
    simp only [Option.getD_some, intOf, Int.toNat_natCast]
    omega
set_option maxHeartbeats 16000000 in
theorem sopen_none {B : Nat} {w : World} {db mb : Nat} {room used fuse : Int} {L : List Row} {F : ByteArray → ByteArray × Nat} (hd : Dk w db mb room used fuse L F) (ho : DkOK room used fuse L F) (hfu : fuse ≠ 0) (nm : ByteArray) (h1 : 1 ≤ nm.size) (h2 : nm.size ≤ 40) (base every : Nat) (hb : base ≤ 1099511627776) (he1 : 1 ≤ every) (he2 : every ≤ 1000000)
  (hg : getL L nm = none) (l : List Bat) (q : Nat) (hsc : Scan ByteArray.empty 0 base l q) (hst : StepsOK w) (hl : l.length ≤ 800) (hB : B ≤ w.heap.size) (hw0 : 1 ≤ w.heap.size) :
  Calls Tryz.prog 51 #[.pointer (some ⟨db, 0, none⟩), .string nm, .int .i64 base, .int .i64 every] w (OpenPost B w db mb nm base every room used fuse L F ByteArray.empty 0 l q) := by
 have hml : nm.size ≤ maxLen := by unfold maxLen; omega
 have hat := hsc.at'
 have hq : q = sumB l := by have := hat.1; omega
 have hqs := hat.2.1
 have hch := hat.2.2
 have HI := Lib.hid (inew_yes every w (by omega) (by omega) B hB)
 have g4 : ¬ nm.toList = [] := fun h => by
  have := empty_list.2 h
  rw [this] at h1
  cases h1
 have g5 : nm.toList.isEmpty = false := by simpa using g4
 have h3 : (nm.size : Int) ≤ 40 := by omega
 have HD := Lib.hid hd
 have HO := Lib.hid ho
 have HSC := Lib.hid hsc
 have HST := Lib.hid hst
 have HCH := Lib.hid hch
 have HQ := Lib.hid hq
 have hz : sumB l = 0 := by
  have h9 : (ByteArray.empty).size = 0 := rfl
  omega
 have HZ := Lib.hid hz
 have HQZ := Lib.hid (hq.trans hz)
 clear hz
 clear hd ho hsc hst hat hq hch
 go_enter Tryz.func51, Tryz.ntmps51
 go_wp2_with fail
 refine HI.out.mono ?_
 rintro e w1 ⟨rfl, hf1, hsz1, hix1⟩
 have F1 := Lib.hid hf1
 have IX1 := Lib.hid hix1
 have SZ1 := Lib.hid hsz1
 clear hf1 hsz1 hix1 HI
 go_wp2_with fail
 refine (dread_none (HD.out.old F1.out) hfu nm hml hg).mono ?_
 rintro e w2 ⟨rfl, rfl⟩
 go_wp2_with fail
 have hnat : ((every : Int).toNat) = every := Int.toNat_natCast every
 rw [hnat] at IX1
 have MADE := Lib.hid (Sg.made db nm base every IX1.out SZ1.out hB he1 he2 hb)
 have FM := Lib.hid (F1.out.alloc (.cells #[.pointer (some ⟨db, 0, none⟩), .string nm, .int .i64 base, .int .i64 base, .int .i64 0, .slice none 0 0, .pointer (some ⟨w.heap.size, 0, none⟩)] 138))
 have SM := Lib.hid (show (w2.alloc (.cells #[.pointer (some ⟨db, 0, none⟩), .string nm, .int .i64 base, .int .i64 base, .int .i64 0, .slice none 0 0, .pointer (some ⟨w.heap.size, 0, none⟩)] 138)).heap.size = w2.heap.size + 1 by simp)
 clear hnat F1 IX1
 generalize (w2.alloc (.cells #[.pointer (some ⟨db, 0, none⟩), .string nm, .int .i64 base, .int .i64 base, .int .i64 0, .slice none 0 0, .pointer (some ⟨w.heap.size, 0, none⟩)] 138)) = W3 at *
 have hmid : OpMid B w w2.heap.size db nm base every ByteArray.empty l q [] l W3 := ⟨rfl, ⟨_, MADE.out, fun i hi => by have := SM.out; have := SZ1.out; rcases hi with rfl | rfl <;> exact ⟨by omega, by omega⟩⟩, HSC.out, FM.out⟩
 have MID := Lib.hid hmid
 clear hmid MADE FM SM SZ1
 generalize w2.heap.size = sb at *
 go_loopw [15] (fun _ wr => ∃ l1 l2, OpMid B w sb db nm base every ByteArray.empty l q l1 l2 wr) (fun _ wr => 0 + 1 - (intOf ((wr.cell? ⟨sb, 4, none⟩).getD undef)).toNat)
 case atStart => exact ⟨[], l, MID.out⟩
 case round =>
  obtain ⟨l1, l2, hm⟩ := hrel
  clear MID
  obtain ⟨S', hsg, hS'⟩ := hm.sg
  obtain ⟨bv, ib, hbx⟩ := hsg.cells
  have c4 : wr.cell? ⟨sb, 4, none⟩ = some (.int .i64 (sumB l1)) := (cell_of hbx 4).trans rfl
  have hmeq := hm.eq
  have hsl : sumB l = sumB l1 + sumB l2 := by rw [hmeq]; simp [sumB]
  have hll : l.length = l1.length + l2.length := by rw [hmeq, List.length_append]
  have SG := Lib.hid hsg
  have SL := Lib.hid hS'
  have BX := Lib.hid hbx
  have FR := Lib.hid hm.fr
  have HSL := Lib.hid hsl
  have HLL := Lib.hid hll
  have HEQ := Lib.hid hmeq
  rcases hm.sc.inv with ⟨rfl, hno⟩ | ⟨rfl, b, hbok, hbi, hlow⟩ | ⟨b, l', rfl, hbok, hbi, hge, hsc'⟩
  ·have HNO := Lib.hid (hno wr (HST.out.old FR.out))
   clear hm hsg hS' hbx hmeq hsl hll hno
   go_wp2_with fail
   refine HNO.out.mono ?_
   rintro e w4 ⟨c, hc, rfl, hf4⟩
   have q1 : (c != 0) = true := by simpa using hc
   have F4 := Lib.hid (hf4.alloc (.cells (batBox ⟨0, 0, 0, 0, 0, []⟩ (.slice none 0 0)) 36))
   clear hf4 hc c4
   unfold batZV
   unfold batBox at F4
   go_wp2_with fail
   go_quiet (fail)
   have F5 := Lib.hid (F4.out.drewN nq)
   clear F4
   generalize (w4.alloc (.cells #[.int .i64 0, .int .i64 0, .int .i64 0, .int .i64 0, .int .i64 0, .slice none 0 0] 36)).drewN nq = wx at *
   have HSG := Lib.hid (SG.out.old F5.out)
   have SL2 := Lib.hid (fun i (hi : S' i) => (⟨(SL.out i hi).1, Nat.lt_of_lt_of_le (SL.out i hi).2 F5.out.size⟩ : w.heap.size ≤ i ∧ i < wx.heap.size))
   have FX := Lib.hid (FR.out.tr F5.out)
   have e : l = l1 := by have := HEQ.out; rwa [List.append_nil] at this
   subst e
   clear SL
   have SL := SL2
   have hcx := HSG.out.cells
   obtain ⟨bvx, ibx, hbx⟩ := hcx
   have cx : wx.cell? ⟨sb, 4, none⟩ = some (.int .i64 (sumB l)) := (cell_of hbx 4).trans rfl
   clear hbx
   have hz : sumB l = 0 := HZ.out
   rw [hz] at cx
   clear hz
   go_wp2_with fail
   go_ret2
   exact ⟨sb, S', rfl, HSG.out, SL.out, fun h => (by rw [HQZ.out] at h; simp at h), fun _ => HD.out.old FX.out, FX.out.mono fun _ h => h.elim⟩
  ·have HNO := Lib.hid (bdecode_ok ByteArray.empty (sumB l1) b hbok hbi wr (by decide) (HST.out.old FR.out))
   have d3 : wr.cell? ⟨sb, 3, none⟩ = some (.int .i64 (endOf base l1)) := (cell_of hbx 3).trans rfl
   have hb0 := hbok.base0
   have hb1 := hbok.base1
   have D3 := Lib.hid d3
   clear hm hsg hS' hbx hmeq hsl hll hbok hbi d3
   go_wp2_with fail
   refine HNO.out.mono ?_
   rintro e w4 ⟨rv, rfl, hr4, hone, hf4⟩
   obtain ⟨ra, rcap, rfl, -⟩ := hr4
   have F4 := Lib.hid (hf4.alloc (.cells (batBox b (.slice ra b.recs.length rcap)) 36))
   have d0 : (w4.alloc (.cells (batBox b (.slice ra b.recs.length rcap)) 36)).cell? ⟨w4.heap.size, 0, none⟩ = some (.int .i64 b.base) := cell_alloc_new w4 _ 36 0
   have d3 := F4.out.cel D3.out
   clear hf4 c4 D3 HNO
   unfold batV
   unfold batBox at F4 d0 d3
   go_wp2_with fail
   go_quiet (fail)
   have F5 := Lib.hid (F4.out.drewN nq)
   clear F4 d0 d3
   generalize (w4.alloc (.cells #[.int .i64 b.base, .int .i64 b.span, .int .i64 b.prod, .int .i64 b.epoch, .int .i64 b.seq, .slice ra b.recs.length rcap] 36)).drewN nq = wx at *
   have HSG := Lib.hid (SG.out.old F5.out)
   have SL2 := Lib.hid (fun i (hi : S' i) => (⟨(SL.out i hi).1, Nat.lt_of_lt_of_le (SL.out i hi).2 F5.out.size⟩ : w.heap.size ≤ i ∧ i < wx.heap.size))
   have FX := Lib.hid (FR.out.tr F5.out)
   have e : l = l1 := by have := HEQ.out; rwa [List.append_nil] at this
   subst e
   clear SL
   have SL := SL2
   have hcx := HSG.out.cells
   obtain ⟨bvx, ibx, hbx⟩ := hcx
   have cx : wx.cell? ⟨sb, 4, none⟩ = some (.int .i64 (sumB l)) := (cell_of hbx 4).trans rfl
   clear hbx
   have hz : sumB l = 0 := HZ.out
   rw [hz] at cx
   clear hz
   go_wp2_with fail
   go_ret2
   exact ⟨sb, S', rfl, HSG.out, SL.out, fun h => (by rw [HQZ.out] at h; simp at h), fun _ => HD.out.old FX.out, FX.out.mono fun _ h => h.elim⟩
  ·have HNO := Lib.hid (bdecode_ok ByteArray.empty (sumB l1) b hbok hbi wr (by decide) (HST.out.old FR.out))
   have d3 : wr.cell? ⟨sb, 3, none⟩ = some (.int .i64 (endOf base l1)) := (cell_of hbx 3).trans rfl
   have hb0 := hbok.base0
   have hb1 := hbok.base1
   have hnlt : ¬ b.base < endOf base l1 := by omega
   have HOK := Lib.hid hbok
   have HGE := Lib.hid hge
   have HSC2 := Lib.hid hsc'
   have D3 := Lib.hid d3
   clear hm hsg hS' hbx hmeq hsl hll hbok hbi d3 hge hsc'
   go_wp2_with fail
   refine HNO.out.mono ?_
   rintro e w4 ⟨rv, rfl, hr4, hone, hf4⟩
   have hh := hr4
   obtain ⟨ra, rcap, rfl, -⟩ := hh
   have F4 := Lib.hid (hf4.alloc (.cells (batBox b (.slice ra b.recs.length rcap)) 36))
   have d0 : (w4.alloc (.cells (batBox b (.slice ra b.recs.length rcap)) 36)).cell? ⟨w4.heap.size, 0, none⟩ = some (.int .i64 b.base) := cell_alloc_new w4 _ 36 0
   have d3 := F4.out.cel D3.out
   have X4 := Lib.hid (heap_alloc_self w4 (.cells (batBox b (.slice ra b.recs.length rcap)) 36))
   have HR4 := Lib.hid ((hr4.mono (K' := fun k => wr.heap.size ≤ k ∧ k < w4.heap.size) fun k hk hl => ⟨hk, hl⟩).old ((Fr.same w4).alloc (.cells (batBox b (.slice ra b.recs.length rcap)) 36)))
   have HF4 := Lib.hid hf4
   have S4 := Lib.hid (show (w4.alloc (.cells (batBox b (.slice ra b.recs.length rcap)) 36)).heap.size = w4.heap.size + 1 by simp)
   clear hf4 c4 D3 HNO hr4
   unfold batV
   unfold batBox at F4 d0 d3 X4 HR4 S4
   go_wp2_with fail
   go_quiet (fail)
   have F5 := Lib.hid (F4.out.drewN nq)
   have X5 := Lib.hid (show ((w4.alloc (.cells #[.int .i64 b.base, .int .i64 b.span, .int .i64 b.prod, .int .i64 b.epoch, .int .i64 b.seq, .slice ra b.recs.length rcap] 36)).drewN nq).heap[w4.heap.size]? = _ from X4.out)
   have HR5 := Lib.hid (HR4.out.old ((Fr.same (w4.alloc (.cells #[.int .i64 b.base, .int .i64 b.span, .int .i64 b.prod, .int .i64 b.epoch, .int .i64 b.seq, .slice ra b.recs.length rcap] 36))).drewN nq))
   have S5 := Lib.hid (show ((w4.alloc (.cells #[.int .i64 b.base, .int .i64 b.span, .int .i64 b.prod, .int .i64 b.epoch, .int .i64 b.seq, .slice ra b.recs.length rcap] 36)).drewN nq).heap.size = w4.heap.size + 1 from S4.out)
   clear F4 d0 d3 X4 HR4 S4
   generalize ((w4.alloc (.cells #[.int .i64 b.base, .int .i64 b.span, .int .i64 b.prod, .int .i64 b.epoch, .int .i64 b.seq, .slice ra b.recs.length rcap] 36)).drewN nq) = W at *
   have y4 : ∀ y : Lcl.InS (fun w' => Fr (fun _ => False) W w'), y.w.cell? ⟨sb, 4, none⟩ = some (.int .i64 (sumB l1)) := fun y => y.h.cel (F5.out.cel ((cell_of BX.out 4).trans rfl))
   have x0 : ∀ y : Lcl.InS (fun w' => Fr (fun _ => False) W w'), y.w.cell? ⟨w4.heap.size, 0, none⟩ = some (.int .i64 b.base) := fun y => y.h.cel ((cell_of X5.out 0).trans rfl)
   have x1 : ∀ y : Lcl.InS (fun w' => Fr (fun _ => False) W w'), y.w.cell? ⟨w4.heap.size, 1, none⟩ = some (.int .i64 b.span) := fun y => y.h.cel ((cell_of X5.out 1).trans rfl)
   have x2 : ∀ y : Lcl.InS (fun w' => Fr (fun _ => False) W w'), y.w.cell? ⟨w4.heap.size, 2, none⟩ = some (.int .i64 b.prod) := fun y => y.h.cel ((cell_of X5.out 2).trans rfl)
   have x3 : ∀ y : Lcl.InS (fun w' => Fr (fun _ => False) W w'), y.w.cell? ⟨w4.heap.size, 3, none⟩ = some (.int .i64 b.epoch) := fun y => y.h.cel ((cell_of X5.out 3).trans rfl)
   have x4 : ∀ y : Lcl.InS (fun w' => Fr (fun _ => False) W w'), y.w.cell? ⟨w4.heap.size, 4, none⟩ = some (.int .i64 b.seq) := fun y => y.h.cel ((cell_of X5.out 4).trans rfl)
   have x5 : ∀ y : Lcl.InS (fun w' => Fr (fun _ => False) W w'), y.w.cell? ⟨w4.heap.size, 5, none⟩ = some (.slice ra b.recs.length rcap) := fun y => y.h.cel ((cell_of X5.out 5).trans rfl)
   have hsc2 := HSC2.out.at'
   have hl1 : l1.length < 800 := by have := HLL.out; rw [List.length_cons] at this; omega
   have hsum9 : sumB l1 + bsz b ≤ 1000000000 := by have h9 := HSL.out; have h8 := HQ.out; rw [sumB_cons] at h9; have h7 := hqs; simp at h7; omega
   have hbz : (batS b).size = bsz b := rfl
   rw [hbz]
   have hwr : IntKind.i64.wrap ((sumB l1 : Int) + (bsz b : Int) - (sumB l1 : Int)) = (bsz b : Int) := by
    rw [show (sumB l1 : Int) + (bsz b : Int) - (sumB l1 : Int) = (bsz b : Int) by omega]
    exact IntWalk.i64_in _ (by omega)
   have HW := Lib.hid hwr
   clear hsc2 hbz
   go_wp2_with fail
   refine Lcl.wp_region_calm (by kernel_rfl) [(true, [0, 2, 3, 4, 5]), (false, [1, 6]), (true, [7])] #[0, 0, 0, 0, 8, 24, 56, 124, 255] [0, 1, 2, 3, 4, 5, 6, 7] 1 #[true, true, true, true, true, true, true, true, false] (by kernel_rfl) (by kernel_rfl) (by kernel_rfl) (fun w' => Fr (fun _ => False) W w') (Fr.same W).drew (fun d c a v w h => by cases d <;> exact h) ?_
   simp only [Lcl.opsOf, List.map_cons, List.map_nil, List.getElem?_toArray, List.getElem?_cons_succ, List.getElem?_cons_zero, Option.getD_some]
   refine Lcl.wpCalm_t ?_
   repeat (go_big_quiet_step (rfl))
   refine wpQuiet_nil ?_
   refine Lcl.wpCalm_f ?_
   repeat (go_big_quiet_step (rfl))
   refine wpQuiet_nil ?_
   refine Lcl.wpCalm_t ?_
   repeat (go_big_quiet_step (rfl))
   refine wpQuiet_nil ?_
   refine Lcl.wpCalm_nil ?_
   clear x0 x1 x2 x3 x4 x5 y4 hwr
   refine Lcl.wpG_run [8] _ _ _ (by kernel_rfl) ?_
   simp only [List.map_cons, List.map_nil, List.getElem?_toArray, List.getElem?_cons_succ, List.getElem?_cons_zero, Option.getD_some]
   have hK : ∀ k, (wr.heap.size ≤ k ∧ k < w4.heap.size) → B ≤ k ∧ k < W.drew.heap.size ∧ ¬ S' k := fun k hk => by
    have h1 := FR.out.size
    have h2 : W.drew.heap.size = w4.heap.size + 1 := S5.out
    exact ⟨by omega, by omega, fun h => by have := (SL.out k h).2; omega⟩
   have HN := Lib.hid (note_walk (SG.out.old F5.out.drew) b (.slice ra b.recs.length rcap) _ HOK.out HGE.out (HR5.out.old (Fr.same W).drew) hK hl1 hsum9 (by have h1 := FR.out.size; have h2 := F5.out.drew.size; omega))
   clear hK
   unfold batV at HN
   go_wp2_with fail
   refine HN.out.mono ?_
   rintro e w6 ⟨rfl, hsg6, hf6⟩
   have hmid : OpMid B w sb db nm base every ByteArray.empty l q (l1 ++ [b]) l' w6 := by
    have h1 := FR.out.size
    have h2 : W.drew.heap.size = w4.heap.size + 1 := S5.out
    have h3 := hf6.size
    have h4 := F5.out.drew.size
    refine ⟨by rw [HEQ.out, List.append_assoc]; rfl, ⟨_, hsg6, fun i hi => ?_⟩, ?_, ?_⟩
    ·rcases hi with (hi | hi) | hi
     ·have := SL.out i hi; exact ⟨this.1, by omega⟩
     ·exact ⟨by omega, by omega⟩
     ·exact ⟨by omega, by omega⟩
    ·have he : endOf (base : Int) (l1 ++ [b]) = b.base + b.span := by simp [endOf]
     rw [sumB_snoc, he]
     exact HSC2.out
    ·exact (FR.out.tr F5.out.drew).trans hf6 fun i hi => .inr (by
      rcases hi with hi | hi
      ·exact (SL.out i hi).1
      ·omega)
   obtain ⟨bv6, ib6, hb6⟩ := hsg6.cells
   have c6 : w6.cell? ⟨sb, 4, none⟩ = some (.int .i64 (sumB (l1 ++ [b]))) := (cell_of hb6 4).trans rfl
   have c9 : wr.cell? ⟨sb, 4, none⟩ = some (.int .i64 (sumB l1)) := (cell_of BX.out 4).trans rfl
   have MID2 := Lib.hid hmid
   have C6 := Lib.hid c6
   have C9 := Lib.hid c9
   clear hsg6 hf6 hmid hb6 c6 c9 HN
   go_wp2_with fail
   go_roundw
   case rel => exact ⟨_, _, MID2.out⟩
   case measure =>
    rw [C6.out, C9.out, sumB_snoc]
    have h9 := HSL.out
    have h8 := HQ.out
    have h7 := bsz_pos b
    rw [sumB_cons] at h9
    simp only [Option.getD_some, intOf, Int.toNat_natCast]
    have h6 := hqs; simp at h6; omega
end Go.Proofs.YtdlnafhhkpklmaaGreatDoor
