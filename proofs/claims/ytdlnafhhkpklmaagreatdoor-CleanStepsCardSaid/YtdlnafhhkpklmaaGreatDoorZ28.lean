/- Latest, of the program and of the document: the walks. -/
import Derived.Test.YtdlnafhhkpklmaaGreatDoorZ27
namespace Go.Proofs.YtdlnafhhkpklmaaGreatDoor
open Go.RowKit Go.Fm Go.BigFrame
set_option linter.unusedVariables false
set_option linter.unusedSimpArgs false
/-- A record with this key stands there. -/
def Hit (l : List Bat) (s : ByteArray) (i k : Nat) : Prop := ∃ b r, l[i]? = some b ∧ b.recs[k]? = some r ∧ r.bare = false ∧ r.key = s
/-- (i, k) comes behind (j, m). -/
def Behind (i k j m : Nat) : Prop := j < i ∨ (j = i ∧ m < k)
theorem keysIn_spec {l : List Bat} {i : Nat} {b : Bat} (hb : l[i]? = some b) (s : ByteArray)
  (h0 : match keysTo l i s with | none => ∀ j m, j < i → ¬ Hit l s j m | some p => Hit l s p.1 p.2 ∧ p.1 < i ∧ ∀ j m, j < i → Behind j m p.1 p.2 → ¬ Hit l s j m) : ∀ k, k ≤ b.recs.length →
  match keysIn i b.recs (keysTo l i) k s with
  | none => (∀ j m, j < i → ¬ Hit l s j m) ∧ ∀ m, m < k → ¬ Hit l s i m
  | some p => Hit l s p.1 p.2 ∧ (p.1 < i ∨ (p.1 = i ∧ p.2 < k)) ∧ (∀ j m, j < i → Behind j m p.1 p.2 → ¬ Hit l s j m) ∧ ∀ m, m < k → Behind i m p.1 p.2 → ¬ Hit l s i m
 | 0, _ => by
  show match keysTo l i s with | none => _ | some p => _
  cases h : keysTo l i s with
  | none => rw [h] at h0; exact ⟨h0, fun m hm => by omega⟩
  | some p => rw [h] at h0; exact ⟨h0.1, .inl h0.2.1, h0.2.2, fun m hm => by omega⟩
 | k + 1, hk => by
  have ih := keysIn_spec hb s h0 k (by omega)
  obtain ⟨r, hr⟩ := get_of_lt (show k < b.recs.length by omega)
  have hit : Hit l s i k ↔ (r.bare = false ∧ r.key = s) := by
   constructor
   ·rintro ⟨b', r', h1, h2, h3, h4⟩
    rw [hb] at h1; injection h1 with h1; subst h1
    rw [hr] at h2; injection h2 with h2; subst h2
    exact ⟨h3, h4⟩
   ·rintro ⟨h3, h4⟩; exact ⟨b, r, hb, hr, h3, h4⟩
  by_cases hyes : r.bare = false ∧ r.key = s
  ·rw [keysIn_key hr hyes.1]
   simp only [hyes.2, if_true]
   refine ⟨hit.2 hyes, by simp, fun j m hj hB => ?_, fun m hm hB => ?_⟩
   ·unfold Behind at hB; omega
   ·unfold Behind at hB; omega
  ·have hsame : keysIn i b.recs (keysTo l i) (k + 1) s = keysIn i b.recs (keysTo l i) k s := by
    cases hbare : r.bare with
    | true => rw [keysIn_bare hr hbare]
    | false =>
     rw [keysIn_key hr hbare]
     simp only
     rw [if_neg fun e => hyes ⟨hbare, e.symm⟩]
   rw [hsame]
   have hno : ¬ Hit l s i k := fun h => hyes (hit.1 h)
   cases h : keysIn i b.recs (keysTo l i) k s with
   | none =>
    rw [h] at ih
    refine ⟨ih.1, fun m hm => ?_⟩
    by_cases e : m = k
    ·subst e; exact hno
    ·exact ih.2 m (by omega)
   | some p =>
    rw [h] at ih
    refine ⟨ih.1, by omega, ih.2.2.1, fun m hm hB => ?_⟩
    by_cases e : m = k
    ·subst e; exact hno
    ·exact ih.2.2.2 m (by omega) hB
theorem keysTo_spec (l : List Bat) (s : ByteArray) : ∀ n, match keysTo l n s with | none => ∀ j m, j < n → ¬ Hit l s j m | some p => Hit l s p.1 p.2 ∧ p.1 < n ∧ ∀ j m, j < n → Behind j m p.1 p.2 → ¬ Hit l s j m
 | 0 => fun j m h => by omega
 | n + 1 => by
  have ih := keysTo_spec l s n
  cases hb : l[n]? with
  | none =>
   have e : keysTo l (n + 1) = keysTo l n := by simp [keysTo, hb]
   rw [e]
   have hno : ∀ m, ¬ Hit l s n m := fun m ⟨b, r, h1, _⟩ => by rw [hb] at h1; cases h1
   cases h : keysTo l n s with
   | none =>
    rw [h] at ih
    intro j m hj
    by_cases e : j = n
    ·subst e; exact hno m
    ·exact ih j m (by omega)
   | some p =>
    rw [h] at ih
    refine ⟨ih.1, by omega, fun j m hj hB => ?_⟩
    by_cases e : j = n
    ·subst e; exact hno m
    ·exact ih.2.2 j m (by omega) hB
  | some b =>
   rw [keysTo_next hb]
   have h2 := keysIn_spec hb s ih b.recs.length (Nat.le_refl _)
   have hend : ∀ m, b.recs.length ≤ m → ¬ Hit l s n m := fun m hm ⟨b', r, h1, h3, _⟩ => by
    rw [hb] at h1; injection h1 with h1; subst h1
    have := (List.getElem?_eq_some_iff.1 h3).1; omega
   cases h : keysIn n b.recs (keysTo l n) b.recs.length s with
   | none =>
    rw [h] at h2
    intro j m hj
    by_cases e : j = n
    ·subst e
     rcases Nat.lt_or_ge m b.recs.length with hm | hm
     ·exact h2.2 m hm
     ·exact hend m hm
    ·exact h2.1 j m (by omega)
   | some p =>
    rw [h] at h2
    refine ⟨h2.1, by omega, fun j m hj hB => ?_⟩
    by_cases e : j = n
    ·subst e
     rcases Nat.lt_or_ge m b.recs.length with hm | hm
     ·exact h2.2.2.2 m hm hB
     ·exact hend m hm
    ·exact h2.2.2.1 j m (by omega) hB
def posOf (l : List Bat) (i k : Nat) : Int := match l[i]? with | some b => (match b.recs[k]? with | some r => b.base + r.at' | none => 0) | none => 0
/-- Where the last record of a key stands. -/
def latOf (l : List Bat) (n : Nat) (s : ByteArray) : Int × Bool := match keysTo l n s with | some p => (posOf l p.1 p.2, true) | none => (0, false)
def LatPost (w : World) (p : Int × Bool) (e : Ending) (w' : World) : Prop := e = .returned (.tuple #[.int .i64 p.1, .bool p.2]) ∧ Fr (fun _ => False) w w'
set_option maxRecDepth 100000 in
set_option maxHeartbeats 8000000 in
theorem klatest_walk (K : Nat → Prop) (l : List Bat) (s : ByteArray) (v : Value) (w : World) (h : BatsR K w v l) (hg : GoodL l) (hs : s.size ≤ maxLen) :
  Calls Tryz.prog 35 #[v, .string s] w (LatPost w (latOf l l.length s)) := by
 have hh := h
 obtain ⟨oa, cap, rfl, hcl⟩ := hh
 have H := Lib.hid hcl
 have HB := Lib.hid h
 have G := Lib.hid hg
 have hl8 := hg.len
 clear h hg hcl
 have hsp := keysTo_spec l s l.length
 obtain ⟨p0, hp0⟩ : ∃ p0, p0 = latOf l l.length s := ⟨_, rfl⟩
 rw [← hp0]
 unfold latOf at hp0
 obtain ⟨ok, hok⟩ : ∃ ok, ok = keysTo l l.length s := ⟨_, rfl⟩
 rw [← hok] at hp0 hsp
 have HOK := Lib.hid hok
 have HSP := Lib.hid hsp
 have HP0 := Lib.hid hp0
 clear hok hsp hp0
 go_enter Tryz.func35, Tryz.ntmps35
 go_wp2_with fail
 refine (lasts_walk K l _ _ HB.out G.out).mono ?_
 rintro e w1 ⟨kb, ob, rfl, ⟨nk, hkm⟩, -, hkb, hob, hf1⟩
 have look := hkm.look_ok s hs
 rw [← HOK.out] at look
 have hsp := HSP.out
 have hp0 := HP0.out
 have F1 := Lib.hid hf1
 clear hkm hf1 HSP HP0
 cases ok with
 | none =>
  simp only [Option.isSome_none] at look
  dsimp only at hp0
  subst hp0
  clear hsp
  go_wp2_with fail
  go_ret2
  exact ⟨rfl, F1.out.tr (by repeat' (refine Fr.alloc ?_ _); exact Fr.same _)⟩
 | some p =>
  obtain ⟨p1, p2⟩ := p
  obtain ⟨⟨b, r, hb, hr, -, -⟩, -, -⟩ := hsp
  simp only [Option.isSome_some, spotVal] at look
  dsimp only [posOf] at hp0 hb hr
  rw [hb] at hp0
  dsimp only at hp0
  rw [hr] at hp0
  dsimp only at hp0
  subst hp0
  have hlt := (List.getElem?_eq_some_iff.1 hb).1
  have hlt2 := (List.getElem?_eq_some_iff.1 hr).1
  have HG := Lib.hid (G.out.bats b (List.mem_of_getElem? hb))
  have hlen50 := HG.out.len
  obtain ⟨hb0, hb1⟩ := HG.out.base
  obtain ⟨-, -, ha0, ha1⟩ := HG.out.recs r (List.mem_of_getElem? hr)
  obtain ⟨a, rv, rfl, -, hc, hrr⟩ := H.out p1 b hb
  obtain ⟨ra, rcap, rfl, hrr⟩ := hrr
  obtain ⟨a2, hv, rfl, -, hcy, -⟩ := hrr p2 r hr
  have hf2 := F1.out.alloc (.cells #[.int .i64 p1, .int .i64 p2] 125)
  have hf3 := hf2.alloc (.cells (batCells b (.slice (some a2) b.recs.length rcap)).toArray 36)
  obtain ⟨c0, c1, c2, c3, c4, c5⟩ := hc.to (hf2.block _ hc.lt fun h => h)
  have y0 := hf3.cel hcy.c0
  have d0 : ((w1.alloc (.cells #[.int .i64 p1, .int .i64 p2] 125)).alloc (.cells (batCells b (.slice (some a2) b.recs.length rcap)).toArray 36)).cell? ⟨w1.heap.size + 1, 0, none⟩ = some (.int .i64 b.base) := by simp [batCells]
  have d5 : ((w1.alloc (.cells #[.int .i64 p1, .int .i64 p2] 125)).alloc (.cells (batCells b (.slice (some a2) b.recs.length rcap)).toArray 36)).cell? ⟨w1.heap.size + 1, 5, none⟩ = some (.slice (some a2) b.recs.length rcap) := by simp [batCells]
  have d7 : ((w1.alloc (.cells #[.int .i64 p1, .int .i64 p2] 125)).alloc (.cells (batCells b (.slice (some a2) b.recs.length rcap)).toArray 36)).cell? ⟨w1.heap.size, 1, none⟩ = some (.int .i64 p2) :=
   ((Fr.same _).alloc _).cel (cell_alloc_new w1 #[.int .i64 p1, .int .i64 p2] 125 1)
  have F3 := Lib.hid hf3
  unfold batCells at F3 y0 d0 d5 d7
  clear hb hr hc hrr hcy hf2 hf3
  go_wp2_with fail
  clear c0 c1 c2 c3 c4 c5
  go_quiet (fail)
  have F4 := Lib.hid (F3.out.drewN nq)
  clear y0 d0 d5 d7
  go_wp2_with fail
  go_ret2
  exact ⟨rfl, F4.out⟩
end Go.Proofs.YtdlnafhhkpklmaaGreatDoor
/- The document's Latest, later, last: the walks. -/
namespace Go.Proofs.YtdlnafhhkpklmaaGreatDoor
open Go.RowKit Go.Fm Go.BigFrame
set_option linter.unusedVariables false
set_option linter.unusedSimpArgs false
theorem key_ne {a b : ByteArray} (h : ¬ a = b) : (a.toList == b.toList) = false := by
 cases hh : (a.toList == b.toList) with
 | false => rfl
 | true =>
  have h2 : a.toList = b.toList := eq_of_beq hh
  rw [ByteArray.toList_eq, ByteArray.toList_eq] at h2
  obtain ⟨⟨x⟩⟩ := a
  obtain ⟨⟨y⟩⟩ := b
  exact absurd (by simpa using h2) h
set_option maxRecDepth 100000 in
set_option maxHeartbeats 8000000 in
theorem rlater_walk (K : Nat → Prop) (l : List Bat) (i k : Nat) (b0 : Bat) (r0 : Rec) (v : Value) (w : World) (h : BatsR K w v l) (hg : GoodL l) (hb0 : l[i]? = some b0) (hr0 : b0.recs[k]? = some r0) :
  Calls Tryz.prog 70 #[v, .int .i64 i, .int .i64 k] w (IffPost (∃ j m, Hit l r0.key j m ∧ Behind j m i k) w) := by
 obtain ⟨oa, cap, rfl, hcl⟩ := h
 have H := Lib.hid hcl
 have G := Lib.hid hg
 have hl8 := hg.len
 have hi := (List.getElem?_eq_some_iff.1 hb0).1
 have hkl := (List.getElem?_eq_some_iff.1 hr0).1
 have hlen := (hg.bats b0 (List.mem_of_getElem? hb0)).len
 obtain ⟨a, rv, rfl, -, hc, hrr⟩ := hcl i b0 hb0
 obtain ⟨ra, rcap, rfl, hrr⟩ := hrr
 obtain ⟨a2, hv, rfl, -, hcy, -⟩ := hrr k r0 hr0
 obtain ⟨-, -, -, -, -, c5⟩ := hc
 obtain ⟨-, -, -, e3, -, -, -⟩ := hcy
 have HB0 := Lib.hid hb0
 have HR0 := Lib.hid hr0
 generalize hs : r0.key = s at *
 clear hg hcl hrr hb0 hr0 hs
 go_enter Tryz.func70, Tryz.ntmps70
 go_wp2_with fail
 clear c5 e3
 go_loopw [8] (fun jv wr => ∃ j : Nat, jv = .int .i64 j ∧ i ≤ j ∧ j ≤ l.length ∧ (∀ j' m, j' < j → Behind j' m i k → ¬ Hit l s j' m) ∧ Fr (fun _ => False) w wr) (fun jv _ => l.length - (intOf jv).toNat)
 case atStart => exact ⟨i, rfl, Nat.le_refl _, by omega, fun j' m h1 h2 => by unfold Behind at h2; omega, Fr.same _⟩
 case round =>
  obtain ⟨j, rfl, hij, hj, hno, hf⟩ := hrel
  have F := Lib.hid hf
  have NO := Lib.hid hno
  clear hf hno
  rcases Nat.lt_or_ge j l.length with hlt | hge
  ·obtain ⟨x, hx⟩ := get_of_lt hlt
   obtain ⟨a', rv, ha', -, hc, hrr⟩ := H.out j x hx
   injection ha' with ha'
   subst ha'
   obtain ⟨rb, rcap, rfl, hrr⟩ := hrr
   have HX := Lib.hid hx
   have HRR := Lib.hid hrr
   have HC := Lib.hid hc
   have hlen50 := (G.out.bats x (List.mem_of_getElem? hx)).len
   have hstart : ∃ m0 : Nat, (m0 = if j = i then k + 1 else 0) ∧ m0 ≤ x.recs.length ∧ Behind j m0 i k ∧ ∀ m, m < m0 → Behind j m i k → ¬ Hit l s j m := by
    by_cases e : j = i
    ·subst e
     have h1 := HB0.out
     rw [hx] at h1
     injection h1 with h1
     subst h1
     exact ⟨k + 1, by simp, by omega, .inr ⟨rfl, by omega⟩, fun m hm hB => by unfold Behind at hB; omega⟩
    ·exact ⟨0, by simp [e], Nat.zero_le _, .inl (by omega), fun m hm => by omega⟩
   obtain ⟨m0, hm0, hm0l, hm0b, hm0n⟩ := hstart
   have HM := Lib.hid hm0n
   clear hx hrr hc hm0n
   by_cases e : j = i
   ·subst e
    rw [if_pos rfl] at hm0
    subst hm0
    go_wp2_with fail
    go_loopw [10] (fun mv wr => ∃ m : Nat, mv = .int .i64 m ∧ m ≤ x.recs.length ∧ Behind j m j k ∧ (∀ m', m' < m → Behind j m' j k → ¬ Hit l s j m') ∧ Fr (fun _ => False) w wr) (fun mv _ => x.recs.length - (intOf mv).toNat)
    case atStart => exact ⟨_, by go_num, hm0l, hm0b, HM.out, F.out⟩
    case round =>
     obtain ⟨m, rfl, hm, hmb, hmn, hf⟩ := hrel
     have FQ := Lib.hid hf
     have NM := Lib.hid hmn
     have BH := Lib.hid hmb
     have c5 := hf.cel HC.out.c5
     clear hf hmn hmb
     rcases Nat.lt_or_ge m x.recs.length with hq1 | hq1
     ·obtain ⟨y, hy⟩ := get_of_lt hq1
      obtain ⟨a3, hv, rfl, -, hcy, hhy⟩ := HRR.out m y hy
      obtain ⟨ha, hcap, rfl, -⟩ := hhy
      have HY := Lib.hid hy
      have hf2 := FQ.out.alloc (.cells (recCells y (.slice ha y.hs.length hcap)).toArray 79)
      obtain ⟨e0, e1, e2, e3, e4, e5, e6⟩ := hcy.to (FQ.out.block _ hcy.lt fun h => h)
      have F2 := Lib.hid hf2
      unfold recCells at F2
      clear hy hcy hf2
      by_cases hyes : y.bare = false ∧ y.key = s
      ·obtain ⟨hyb, hyk⟩ := hyes
       have HIT := Lib.hid (show Hit l s j m from ⟨x, y, HX.out, HY.out, hyb, hyk⟩)
       rw [hyb] at e2 F2
       rw [hyk] at e3 F2
       go_wp2_with fail
       go_ret
       exact ⟨true, rfl, ⟨fun _ => ⟨j, m, HIT.out, BH.out⟩, fun _ => rfl⟩, F2.out⟩
      ·have hno : y.bare = true ∨ (y.bare = false ∧ (y.key.toList == s.toList) = false) := by
        cases h : y.bare
        ·exact .inr ⟨rfl, key_ne fun e => hyes ⟨h, e⟩⟩
        ·exact .inl rfl
       have HNO := Lib.hid hyes
       clear hyes
       rcases hno with hyb | ⟨hyb, hyk⟩
       all_goals
        rw [hyb] at e2 F2
        go_wp2_with fail
        go_roundw
        case rel =>
         refine ⟨m + 1, by go_num, by omega, by have := BH.out; unfold Behind at this ⊢; omega, fun m' h1 h2 => ?_, F2.out⟩
         by_cases e9 : m' = m
         ·subst e9
          rintro ⟨b', r', h3, h4, h5, h6⟩
          rw [HX.out] at h3; injection h3 with h3; subst h3
          rw [HY.out] at h4; injection h4 with h4; subst h4
          exact HNO.out ⟨h5, h6⟩
         ·exact NM.out m' (by omega) h2
        case measure => simp [intOf]; omega
     ·go_wp2_with fail
      go_roundw
      case rel =>
       refine ⟨j + 1, by go_num, by omega, by omega, fun j' m' h1 h2 => ?_, FQ.out⟩
       by_cases e9 : j' = j
       ·subst e9
        rintro ⟨b', r', h3, h4, h5⟩
        have h6 := h4
        rw [HX.out] at h3; injection h3 with h3; subst h3
        have h7 := (List.getElem?_eq_some_iff.1 h6).1
        exact NM.out m' (by omega) h2 ⟨_, r', HX.out, h6, h5⟩
       ·exact NO.out j' m' (by omega) h2
      case measure => simp [intOf]; omega
   ·rw [if_neg e] at hm0
    subst hm0
    go_wp2_with fail
    go_loopw [10] (fun mv wr => ∃ m : Nat, mv = .int .i64 m ∧ m ≤ x.recs.length ∧ Behind j m i k ∧ (∀ m', m' < m → Behind j m' i k → ¬ Hit l s j m') ∧ Fr (fun _ => False) w wr) (fun mv _ => x.recs.length - (intOf mv).toNat)
    case atStart => exact ⟨_, by go_num, hm0l, hm0b, HM.out, F.out⟩
    case round =>
     obtain ⟨m, rfl, hm, hmb, hmn, hf⟩ := hrel
     have FQ := Lib.hid hf
     have NM := Lib.hid hmn
     have BH := Lib.hid hmb
     have c5 := hf.cel HC.out.c5
     clear hf hmn hmb
     rcases Nat.lt_or_ge m x.recs.length with hq1 | hq1
     ·obtain ⟨y, hy⟩ := get_of_lt hq1
      obtain ⟨a3, hv, rfl, -, hcy, hhy⟩ := HRR.out m y hy
      obtain ⟨ha, hcap, rfl, -⟩ := hhy
      have HY := Lib.hid hy
      have hf2 := FQ.out.alloc (.cells (recCells y (.slice ha y.hs.length hcap)).toArray 79)
      obtain ⟨e0, e1, e2, e3, e4, e5, e6⟩ := hcy.to (FQ.out.block _ hcy.lt fun h => h)
      have F2 := Lib.hid hf2
      unfold recCells at F2
      clear hy hcy hf2
      by_cases hyes : y.bare = false ∧ y.key = s
      ·obtain ⟨hyb, hyk⟩ := hyes
       have HIT := Lib.hid (show Hit l s j m from ⟨x, y, HX.out, HY.out, hyb, hyk⟩)
       rw [hyb] at e2 F2
       rw [hyk] at e3 F2
       go_wp2_with fail
       go_ret
       exact ⟨true, rfl, ⟨fun _ => ⟨j, m, HIT.out, BH.out⟩, fun _ => rfl⟩, F2.out⟩
      ·have hno : y.bare = true ∨ (y.bare = false ∧ (y.key.toList == s.toList) = false) := by
        cases h : y.bare
        ·exact .inr ⟨rfl, key_ne fun e => hyes ⟨h, e⟩⟩
        ·exact .inl rfl
       have HNO := Lib.hid hyes
       clear hyes
       rcases hno with hyb | ⟨hyb, hyk⟩
       all_goals
        rw [hyb] at e2 F2
        go_wp2_with fail
        go_roundw
        case rel =>
         refine ⟨m + 1, by go_num, by omega, by have := BH.out; unfold Behind at this ⊢; omega, fun m' h1 h2 => ?_, F2.out⟩
         by_cases e9 : m' = m
         ·subst e9
          rintro ⟨b', r', h3, h4, h5, h6⟩
          rw [HX.out] at h3; injection h3 with h3; subst h3
          rw [HY.out] at h4; injection h4 with h4; subst h4
          exact HNO.out ⟨h5, h6⟩
         ·exact NM.out m' (by omega) h2
        case measure => simp [intOf]; omega
     ·go_wp2_with fail
      go_roundw
      case rel =>
       refine ⟨j + 1, by go_num, by omega, by omega, fun j' m' h1 h2 => ?_, FQ.out⟩
       by_cases e9 : j' = j
       ·subst e9
        rintro ⟨b', r', h3, h4, h5⟩
        have h6 := h4
        rw [HX.out] at h3; injection h3 with h3; subst h3
        have h7 := (List.getElem?_eq_some_iff.1 h6).1
        exact NM.out m' (by omega) h2 ⟨_, r', HX.out, h6, h5⟩
       ·exact NO.out j' m' (by omega) h2
      case measure => simp [intOf]; omega
  ·go_wp2_with fail
   go_ret
   refine ⟨false, rfl, ⟨fun h => (by cases h), fun ⟨j', m, h1, h2⟩ => absurd h1 (NO.out j' m ?_ h2)⟩, F.out⟩
   obtain ⟨b, r, h3, -⟩ := h1
   have := (List.getElem?_eq_some_iff.1 h3).1
   omega
set_option maxRecDepth 100000 in
set_option maxHeartbeats 8000000 in
theorem rlast_walk (K : Nat → Prop) (l : List Bat) (i : Nat) (b0 : Bat) (v : Value) (w : World) (h : BatsR K w v l) (hg : GoodL l) (hb0 : l[i]? = some b0) :
  Calls Tryz.prog 71 #[v, .int .i64 i] w (IffPost (0 ≤ b0.prod ∧ ∀ j b, i < j → l[j]? = some b → b.prod ≠ b0.prod) w) := by
 obtain ⟨oa, cap, rfl, hcl⟩ := h
 have H := Lib.hid hcl
 have hl8 := hg.len
 have hi := (List.getElem?_eq_some_iff.1 hb0).1
 obtain ⟨a, rv, rfl, -, hc, -⟩ := hcl i b0 hb0
 have HC := Lib.hid hc
 have c2 := hc.c2
 clear hg hcl hb0 hc
 rcases Classical.em (0 ≤ b0.prod) with hp | hp
 ·go_enter Tryz.func71, Tryz.ntmps71
  go_wp2_with fail
  clear c2
  go_loopw [5] (fun jv wr => ∃ j : Nat, jv = .int .i64 j ∧ i < j ∧ j ≤ l.length ∧ (∀ j' b, i < j' → j' < j → l[j']? = some b → b.prod ≠ b0.prod) ∧ Fr (fun _ => False) w wr) (fun jv _ => l.length - (intOf jv).toNat)
  case atStart => exact ⟨i + 1, by go_num, by omega, by omega, fun j' b h1 h2 => by omega, Fr.same _⟩
  case round =>
   obtain ⟨j, rfl, hij, hj, hno, hf⟩ := hrel
   have F := Lib.hid hf
   have NO := Lib.hid hno
   clear hf hno
   rcases Nat.lt_or_ge j l.length with hlt | hge
   ·obtain ⟨x, hx⟩ := get_of_lt hlt
    obtain ⟨a', rv, ha', -, hc, -⟩ := H.out j x hx
    injection ha' with ha'
    subst ha'
    have c2 := F.out.cel hc.c2
    have d2 := F.out.cel HC.out.c2
    have HX := Lib.hid hx
    clear hx hc
    by_cases e : x.prod = b0.prod
    ·have HE := Lib.hid e
     rw [e] at c2
     clear e
     go_wp2_with fail
     go_quiet (fail)
     have F2 := Lib.hid (F.out.drewN nq)
     clear c2 d2
     go_wp2_with fail
     go_ret
     exact ⟨false, rfl, ⟨fun h => (by cases h), fun h => absurd HE.out (h.2 j x hij HX.out)⟩, F2.out⟩
    ·go_wp2_with fail
     go_quiet (fail)
     have F2 := Lib.hid (F.out.drewN nq)
     clear c2 d2
     have HE := Lib.hid e
     go_wp2_with fail
     go_roundw
     case rel =>
      refine ⟨j + 1, by go_num, by omega, by omega, fun j' b h1 h2 h3 => ?_, F2.out⟩
      by_cases e2 : j' = j
      ·subst e2
       have h4 := HX.out
       rw [h3] at h4
       injection h4 with h4
       subst h4
       exact HE.out
      ·exact NO.out j' b h1 (by omega) h3
     case measure => simp [intOf]; omega
   ·go_wp2_with fail
    go_ret
    refine ⟨true, rfl, ⟨fun _ => ⟨hp, fun j' b h1 h2 => NO.out j' b h1 ?_ h2⟩, fun _ => rfl⟩, F.out⟩
    have := (List.getElem?_eq_some_iff.1 h2).1
    omega
 ·go_enter Tryz.func71, Tryz.ntmps71
  go_wp2_with fail
  go_ret
  exact ⟨false, rfl, ⟨fun h => (by cases h), fun h => absurd h.1 (by omega)⟩, Fr.same _⟩
end Go.Proofs.YtdlnafhhkpklmaaGreatDoor
