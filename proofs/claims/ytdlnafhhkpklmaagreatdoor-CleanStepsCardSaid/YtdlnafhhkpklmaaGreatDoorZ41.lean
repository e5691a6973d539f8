/- The document's Clean: the walk. -/
import Derived.Test.YtdlnafhhkpklmaaGreatDoorZ28
import Derived.Test.YtdlnafhhkpklmaaGreatDoorZ39
import Derived.Test.YtdlnafhhkpklmaaGreatDoorZ40
namespace Go.Proofs.YtdlnafhhkpklmaaGreatDoor
open Go.RowKit Go.Fm Go.BigFrame
set_option linter.unusedVariables false
set_option linter.unusedSimpArgs false
theorem later_iff {l : List Bat} {s : ByteArray} {i k : Nat} (h : Hit l s i k) : (∃ j m, Hit l s j m ∧ Behind j m i k) ↔ keysTo l l.length s ≠ some (i, k) := by
 have hsp := keysTo_spec l s l.length
 have hlen : ∀ {j m}, Hit l s j m → j < l.length := fun ⟨b, r, h1, _⟩ => (List.getElem?_eq_some_iff.1 h1).1
 cases hk : keysTo l l.length s with
 | none => rw [hk] at hsp; exact absurd h (hsp i k (hlen h))
 | some p =>
  rw [hk] at hsp
  obtain ⟨h1, h2, h3⟩ := hsp
  constructor
  ·rintro ⟨j, m, h4, h5⟩ e
   injection e with e
   subst e
   exact h3 j m (hlen h4) h5 h4
  ·intro hne
   refine ⟨p.1, p.2, h1, ?_⟩
   have h6 : ¬ Behind i k p.1 p.2 := fun hB => h3 i k (hlen h) hB h
   have h7 : ¬ (p.1 = i ∧ p.2 = k) := fun ⟨e1, e2⟩ => hne (by rw [← e1, ← e2])
   unfold Behind at h6 ⊢
   omega
theorem ownersTo_spec (l : List Bat) (p : Int) : ∀ n, match ownersTo l n p with | none => ∀ (j : Nat) (b : Bat), j < n → l[j]? = some b → 0 ≤ b.prod → b.prod ≠ p | some i => (∃ b, l[i]? = some b ∧ b.prod = p ∧ 0 ≤ p) ∧ i < n ∧ ∀ (j : Nat) (b : Bat), i < j → j < n → l[j]? = some b → b.prod ≠ p
 | 0 => fun j b h => by omega
 | n + 1 => by
  have ih := ownersTo_spec l p n
  cases hb : l[n]? with
  | none =>
   have e : ownersTo l (n + 1) = ownersTo l n := by simp [ownersTo, hb]
   rw [e]
   cases h : ownersTo l n p with
   | none =>
    rw [h] at ih
    intro j b hj hjb
    by_cases e : j = n
    ·subst e; rw [hb] at hjb; cases hjb
    ·exact ih j b (by omega) hjb
   | some i =>
    rw [h] at ih
    refine ⟨ih.1, by omega, fun j b hij hj hjb => ?_⟩
    by_cases e : j = n
    ·subst e; rw [hb] at hjb; cases hjb
    ·exact ih.2.2 j b hij (by omega) hjb
  | some x =>
   by_cases hp : 0 ≤ x.prod ∧ p = x.prod
   ·rw [ownersTo_yes hb hp.1]
    simp only [hp.2, if_true]
    exact ⟨⟨x, hb, rfl, hp.1⟩, by omega, fun j b h1 h2 => by omega⟩
   ·have e : ownersTo l (n + 1) p = ownersTo l n p := by
     by_cases h0 : 0 ≤ x.prod
     ·rw [ownersTo_yes hb h0]; simp only; rw [if_neg fun e => hp ⟨h0, e⟩]
     ·rw [ownersTo_no hb h0]
    rw [e]
    have hx : 0 ≤ p → x.prod ≠ p := fun h0 e => hp ⟨by omega, e.symm⟩
    cases h : ownersTo l n p with
    | none =>
     rw [h] at ih
     intro j b hj hjb hb0
     by_cases e : j = n
     ·subst e; rw [hb] at hjb; injection hjb with hjb; subst hjb
      intro e2; exact hp ⟨hb0, e2.symm⟩
     ·exact ih j b (by omega) hjb hb0
    | some i =>
     rw [h] at ih
     refine ⟨ih.1, by omega, fun j b hij hj hjb => ?_⟩
     by_cases e : j = n
     ·subst e; rw [hb] at hjb; injection hjb with hjb; subst hjb
      obtain ⟨⟨_, _, _, h0⟩, _⟩ := ih
      exact hx h0
     ·exact ih.2.2 j b hij (by omega) hjb
theorem last_iff {l : List Bat} {i : Nat} {x : Bat} (hx : l[i]? = some x) : (0 ≤ x.prod ∧ ∀ (j : Nat) (b : Bat), i < j → l[j]? = some b → b.prod ≠ x.prod) ↔ ownersTo l l.length x.prod = some i := by
 have hsp := ownersTo_spec l x.prod l.length
 have hi := (List.getElem?_eq_some_iff.1 hx).1
 cases hk : ownersTo l l.length x.prod with
 | none =>
  rw [hk] at hsp
  constructor
  ·rintro ⟨h1, h2⟩; exact absurd rfl (hsp i x hi hx h1)
  ·intro h; cases h
 | some p =>
  rw [hk] at hsp
  obtain ⟨⟨b, h1, h2, h0⟩, h3, h4⟩ := hsp
  constructor
  ·rintro ⟨h5, h6⟩
   by_cases e : p = i
   ·rw [e]
   ·rcases Nat.lt_or_ge p i with h7 | h7
    ·exact absurd rfl (h4 i x h7 hi hx)
    ·exact absurd h2 (h6 p b (by omega) h1)
  ·intro e
   injection e with e
   subst e
   exact ⟨h0, fun j b h5 h6 => h4 j b h5 (List.getElem?_eq_some_iff.1 h6).1 h6⟩
theorem keptTo_all (f : ByteArray → Option (Nat × Nat)) (before : Int) (i : Nat) (rs : List Rec) : ∀ k, k ≤ rs.length → keptTo f before i true rs k = rs.take k
 | 0, _ => by simp [keptTo]
 | k + 1, h => by
  obtain ⟨r, hr⟩ := get_of_lt (show k < rs.length by omega)
  rw [keptTo_yes hr (by simp), keptTo_all f before i rs k (by omega), take_snoc' hr]
theorem keptOf_hi {f : ByteArray → Option (Nat × Nat)} {upto before : Int} {i : Nat} {b : Bat} (h : isHi upto b = true) : ({ b with recs := keptOf f upto before i b } : Bat) = b := by
 unfold keptOf
 rw [h, keptTo_all _ _ _ _ _ (Nat.le_refl _), List.take_length]
theorem hds_lt {K : Nat → Prop} {w : World} {v : Value} {hs : List Hdr} (h : HdsR K w v hs) : HdsR (fun b => b < w.heap.size) w v hs := h.mono fun _ _ hl => hl
set_option maxRecDepth 100000 in
set_option maxHeartbeats 16000000 in
theorem rclean_walk (K : Nat → Prop) (l : List Bat) (upto before : Int) (v : Value) (w : World) (h : BatsR K w v l) (hg : GoodL l) :
  Calls Tryz.prog 33 #[v, .int .i64 upto, .int .i64 before] w (BatsPost (fun _ => True) w (cleanTo (keysTo l l.length) (ownersTo l l.length) upto before l l.length)) := by
 have hh := h
 obtain ⟨oa, cap, rfl, hcl⟩ := hh
 have H := Lib.hid hcl
 have HB := Lib.hid h
 have G := Lib.hid hg
 have hl8 := hg.len
 clear h hg hcl
 obtain ⟨f, hf⟩ : ∃ f, f = keysTo l l.length := ⟨_, rfl⟩
 obtain ⟨g, hg⟩ : ∃ g, g = ownersTo l l.length := ⟨_, rfl⟩
 rw [← hf, ← hg]
 have EF := Lib.hid hf
 have EG := Lib.hid hg
 clear hf hg
 go_enter Tryz.func33, Tryz.ntmps33
 go_wp2_with fail
 go_loopw [7, 8] (fun o i wr => ∃ k : Nat, i = .int .i64 k ∧ k ≤ l.length ∧ OwnBats (fun _ => True) w.heap.size wr o (cleanTo f g upto before l k) ∧ Fr (fun _ => False) w wr) (fun _ i _ => l.length - (intOf i).toNat)
 case atStart => exact ⟨0, rfl, Nat.zero_le _, OwnBats.nil _ _ _, Fr.same _⟩
 case round =>
  obtain ⟨k, rfl, hk, ho, hf⟩ := hrel
  have O := Lib.hid ho
  have F := Lib.hid hf
  clear ho hf
  obtain ⟨oo, ocap, rfl⟩ := O.out.slice
  obtain ⟨wo, hwo⟩ : ∃ wo, wo = wr := ⟨_, rfl⟩
  subst hwo
  rcases Nat.lt_or_ge k l.length with hlt | hge
  ·obtain ⟨x, hx⟩ := get_of_lt hlt
   obtain ⟨a, rv, rfl, -, hc, hr⟩ := H.out k x hx
   have HX := Lib.hid hx
   have HC := Lib.hid hc
   have HR := Lib.hid hr
   have HG := Lib.hid (G.out.bats x (List.mem_of_getElem? hx))
   obtain ⟨ra, rcap, rfl, hrr⟩ := id hr
   have HRR := Lib.hid hrr
   have hlen50 := HG.out.len
   obtain ⟨hb0, hb1⟩ := HG.out.base
   obtain ⟨hs0, hs1⟩ := HG.out.span
   have hcl := cleanTo_len f g upto before l k
   have EHI := Lib.hid (show isHi upto x = decide (upto < x.base + x.span) from rfl)
   obtain ⟨c0, c1, c2, c3, c4, c5⟩ := hc.to (F.out.block _ hc.lt fun h => h)
   clear hx hc hr hrr
   go_wp2_with fail
   refine (copy_bat K x _ _ (HR.out.old F.out) (by omega) (fun r hr => by have := (HG.out.recs r hr).2.1; omega)).mono ?_
   rintro e w2 ⟨rv2, rfl, hr2, hf2⟩
   obtain ⟨rb, rcap2, hrv2, -⟩ := id hr2
   subst hrv2
   have hw2 := hf2.size
   have hA := heap_alloc_self w2 (.cells (batCells x (.slice rb x.recs.length rcap2)).toArray 36)
   have hf3 := hf2.alloc (.cells (batCells x (.slice rb x.recs.length rcap2)).toArray 36)
   have hr3 := hr2.old ((Fr.same w2).alloc (.cells (batCells x (.slice rb x.recs.length rcap2)).toArray 36))
   unfold batCells at hA hf3 hr3
   unfold batV
   have hfz : ∀ j, (w2.alloc (.cells #[.int .i64 x.base, .int .i64 x.span, .int .i64 x.prod, .int .i64 x.epoch, .int .i64 x.seq, .slice rb x.recs.length rcap2] 36)).frozen? ⟨w2.heap.size, j, none⟩ = false := fz_of hA
   have HA := Lib.hid hA
   have F2 := Lib.hid hf2
   have F3 := Lib.hid hf3
   have HR3 := Lib.hid hr3
   clear c0 c1 c2 c3 c4 c5 hr2 hf2 hA hf3 hr3
   by_cases hhi : upto < x.base + x.span
   ·have hi : isHi upto x = true := by rw [EHI.out]; simp [hhi]
    have HI := Lib.hid hi
    have hf4 := F3.out.alloc (.cells (batCells x (.slice rb x.recs.length rcap2)).toArray 36)
    have hac : ∀ j, ((w2.alloc (.cells (batCells x (.slice rb x.recs.length rcap2)).toArray 36)).alloc (.cells (batCells x (.slice rb x.recs.length rcap2)).toArray 36)).cell? ⟨w2.heap.size + 1, j, none⟩ = (batCells x (.slice rb x.recs.length rcap2)).toArray[j]? := by
     intro j
     have := cell_alloc_new (w2.alloc (.cells (batCells x (.slice rb x.recs.length rcap2)).toArray 36)) (batCells x (.slice rb x.recs.length rcap2)).toArray 36 j
     rw [show (w2.alloc (.cells (batCells x (.slice rb x.recs.length rcap2)).toArray 36)).heap.size = w2.heap.size + 1 by simp] at this
     exact this
    have hr4 := HR3.out.old ((Fr.same _).alloc (.cells (batCells x (.slice rb x.recs.length rcap2)).toArray 36))
    unfold batCells at hf4 hac hr4
    have F4 := Lib.hid hf4
    have HAC := Lib.hid hac
    have HR4 := Lib.hid hr4
    clear hi hf4 hac hr4
    go_wp2_with (at_builtin; go_loud (refine wpList_push_bat _ rfl (.tmp 30) (.tmp 32) rfl (fun _ => True) w.heap.size _ (cleanTo f g upto before l k) rfl (O.out.old F4.out) (w2.heap.size + 1) 1 rfl x (.slice rb x.recs.length rcap2) HAC.out ?c1 rfl ?c2 ?c3 ?_))
    case c1 => exact HR4.out.mono fun b hb _ => ⟨trivial, fun e => by have := (O.out.lt e).2; omega⟩
    case c2 => omega
    case c3 => have h8 := F.out.size; have h9 := F4.out.size; exact Nat.le_trans h8 (by simpa using h9)
    intro v8 w8 ho8 hg8 hb8
    have hf8 : Fr (fun _ => False) w w8 := (F.out.tr F4.out).grown hg8 fun k hk => .inr (O.out.lt hk).1
    have ho9 : OwnBats (fun _ => True) w.heap.size w8 v8 (cleanTo f g upto before l (k + 1)) := by
     rw [cleanTo_yes HX.out (by rw [HI.out]; rfl), keptOf_hi HI.out]; exact ho8
    have O8 := Lib.hid ho9
    have F8 := Lib.hid hf8
    clear ho8 ho9 hg8 hb8 hf8
    go_wp2_with fail
    go_roundw
    case rel => exact ⟨k + 1, by go_num, by omega, O8.out, F8.out⟩
    case measure => simp [intOf]; omega
   ·have hi : isHi upto x = false := by rw [EHI.out]; simp [hhi]
    have HI := Lib.hid hi
    have hA3 := heap_alloc_self w2 (.cells #[.int .i64 x.base, .int .i64 x.span, .int .i64 x.prod, .int .i64 x.epoch, .int .i64 x.seq, .slice none 0 0] 36)
    have hf3 := F2.out.alloc (.cells #[.int .i64 x.base, .int .i64 x.span, .int .i64 x.prod, .int .i64 x.epoch, .int .i64 x.seq, .slice none 0 0] 36)
    have hsz3 : (w2.alloc (.cells #[.int .i64 x.base, .int .i64 x.span, .int .i64 x.prod, .int .i64 x.epoch, .int .i64 x.seq, .slice none 0 0] 36)).heap.size = w2.heap.size + 1 := by simp
    have HA3 := Lib.hid hA3
    have FW3 := Lib.hid hf3
    have HSZ := Lib.hid hsz3
    clear hi hA3 hf3 hsz3
    go_wp2_with fail
    generalize (w2.alloc (.cells #[.int .i64 x.base, .int .i64 x.span, .int .i64 x.prod, .int .i64 x.epoch, .int .i64 x.seq, .slice none 0 0] 36)) = W3 at *
    generalize w2.heap.size = T at *
    have hTo : wo.heap.size ≤ T := hw2
    have hT3 : T < W3.heap.size := by have := HSZ.out; omega
    clear hfz HA F2 F3 HR3 HSZ hw2
    go_loopw [10] (fun i wr => ∃ (q : Nat) (kv : Value), i = .int .i64 q ∧ q ≤ x.recs.length ∧ wr.heap[T]? = some (.cells #[.int .i64 x.base, .int .i64 x.span, .int .i64 x.prod, .int .i64 x.epoch, .int .i64 x.seq, kv] 36 (0, 0)) ∧ OwnRecs (fun b => b < w.heap.size) W3.heap.size wr kv (keptTo f before k (isHi upto x) x.recs q) ∧ Fr (fun b => b = T) W3 wr) (fun i _ => x.recs.length - (intOf i).toNat)
    case atStart => exact ⟨0, _, rfl, Nat.zero_le _, HA3.out, OwnRecs.nil _ _ _, Fr.refl _ _⟩
    case round =>
     obtain ⟨q, kv, rfl, hq, hA, ho, hf⟩ := hrel
     have AT := Lib.hid hA
     have OR := Lib.hid ho
     have FI := Lib.hid hf
     clear hA ho hf
     obtain ⟨ko, kcap, rfl⟩ := OR.out.slice
     have hw3 : w.heap.size ≤ wo.heap.size := F.out.size
     have hfall : Fr (fun _ => False) w wr := (F.out.tr FW3.out).trans FI.out fun i hi => .inr (by subst hi; omega)
     have FALL := Lib.hid hfall
     have hkq := keptTo_len f before k (isHi upto x) x.recs q
     have hwr3 : W3.heap.size ≤ wr.heap.size := FI.out.size
     obtain ⟨c0, c1, c2, c3, c4, c5⟩ := HC.out.to (hfall.block _ HC.out.lt fun h => h)
     clear hfall c0 c1 c2 c3 c4
     rcases Nat.lt_or_ge q x.recs.length with hq1 | hq1
     ·obtain ⟨y, hy⟩ := get_of_lt hq1
      obtain ⟨a2, hv, rfl, -, hcy, hhy⟩ := HRR.out q y hy
      have HY := Lib.hid hy
      have HHY := Lib.hid (hds_lt hhy)
      obtain ⟨ha, hcap, rfl, -⟩ := hhy
      obtain ⟨e0, e1, e2, e3, e4, e5, e6⟩ := hcy.to (FALL.out.block _ hcy.lt fun h => h)
      have hf4 := (Fr.same wr).alloc (.cells (recCells y (.slice ha y.hs.length hcap)).toArray 79)
      have hac : ∀ j, (wr.alloc (.cells (recCells y (.slice ha y.hs.length hcap)).toArray 79)).cell? ⟨wr.heap.size, j, none⟩ = (recCells y (.slice ha y.hs.length hcap)).toArray[j]? := fun j => cell_alloc_new wr _ 79 j
      unfold recCells at hf4 hac
      rcases y with ⟨yat, ytm, ybare, ykey, ygone, yval, yhs⟩
      dsimp only at *
      have F4 := Lib.hid hf4
      have AC := Lib.hid hac
      clear hy hcy hf4 hac
      cases ybare
      ·have HIT := Lib.hid (show Hit l ykey k q from ⟨x, _, HX.out, HY.out, rfl, rfl⟩)
       go_wp2_with fail
       refine (rlater_walk K l k q x _ _ _ (HB.out.old (FALL.out.tr F4.out)) G.out HX.out HY.out).mono ?_
       rintro e w5 ⟨c, rfl, hcc, hf5⟩
       dsimp only at hcc
       rw [later_iff HIT.out, ← EF.out] at hcc
       have F5 := Lib.hid (F4.out.tr hf5)
       have ac5 : ∀ (j : Nat) (u : Value), (#[.int .i64 yat, .int .i64 ytm, .bool false, .string ykey, .bool ygone, .string yval, .slice ha yhs.length hcap] : Array Value)[j]? = some u → w5.cell? ⟨wr.heap.size, j, none⟩ = some u := fun j u hj => hf5.cel ((AC.out j).trans hj)
       have d0 := ac5 0 _ rfl
       have d1 := ac5 1 _ rfl
       have d2 := ac5 2 _ rfl
       have d3 := ac5 3 _ rfl
       have d4 := ac5 4 _ rfl
       have d5 := ac5 5 _ rfl
       have d6 := ac5 6 _ rfl
       have hw5 := F5.out.size
       clear e0 e1 e2 e3 e4 e5 e6 c5 ac5 hf5 F4 AC
       have hA5 := (F5.out.block T (by omega) fun h => h).trans AT.out
       have dT5 : w5.cell? ⟨T, 5, none⟩ = some (.slice ko (keptTo f before k (isHi upto x) x.recs q).length kcap) := cell_of hA5 5
       have A5 := Lib.hid hA5
       have O5 := Lib.hid (OR.out.old F5.out)
       clear hA5
       cases c
       ·have hff : f ykey = some (k, q) := Classical.byContradiction fun h => by have := hcc.2 h; cases this
        clear hcc
        cases ygone
        ·have hgo : goesB f before k q ⟨yat, ytm, false, ykey, false, yval, yhs⟩ = false := by simp [goesB, hff]
         have hgk : (isHi upto x || !goesB f before k q ⟨yat, ytm, false, ykey, false, yval, yhs⟩) = true := by rw [hgo]; simp
         have hf6 := F5.out.alloc (.cells #[.int .i64 yat, .int .i64 ytm, .bool false, .string ykey, .bool false, .string yval, .slice ha yhs.length hcap] 79)
         have hac6 : ∀ j, (w5.alloc (.cells #[.int .i64 yat, .int .i64 ytm, .bool false, .string ykey, .bool false, .string yval, .slice ha yhs.length hcap] 79)).cell? ⟨w5.heap.size, j, none⟩ = (recCells ⟨yat, ytm, false, ykey, false, yval, yhs⟩ (.slice ha yhs.length hcap)).toArray[j]? := by
          intro j
          have := cell_alloc_new w5 #[.int .i64 yat, .int .i64 ytm, .bool false, .string ykey, .bool false, .string yval, .slice ha yhs.length hcap] 79 j
          first | exact this | (rw [show w5.heap.size = w5.heap.size by simp] at this; exact this)
         have hr6 : HdsR (fun b => b < w.heap.size) (w5.alloc (.cells #[.int .i64 yat, .int .i64 ytm, .bool false, .string ykey, .bool false, .string yval, .slice ha yhs.length hcap] 79)) (.slice ha yhs.length hcap) yhs := HHY.out.fr (FALL.out.tr hf6) fun _ _ h => h
         have hor6 := O5.out.old ((Fr.same _).alloc (.cells #[.int .i64 yat, .int .i64 ytm, .bool false, .string ykey, .bool false, .string yval, .slice ha yhs.length hcap] 79))
         have hA6 := (((Fr.same w5).alloc (.cells #[.int .i64 yat, .int .i64 ytm, .bool false, .string ykey, .bool false, .string yval, .slice ha yhs.length hcap] 79)).block T (by have := F5.out.size; omega) fun h => h).trans A5.out
         have F6 := Lib.hid hf6
         have AC6 := Lib.hid hac6
         have R6 := Lib.hid hr6
         have O6 := Lib.hid hor6
         have A6 := Lib.hid hA6
         clear hf6 hac6 hr6 hor6 hA6
         go_wp2_with (at_builtin; refine wpList_push_rec _ rfl (.tmp 73) (.tmp 75) rfl (fun b => b < w.heap.size) W3.heap.size _ (keptTo f before k (isHi upto x) x.recs q) rfl O6.out (w5.heap.size) 1 rfl ⟨yat, ytm, false, ykey, false, yval, yhs⟩ (.slice ha yhs.length hcap) AC6.out ?c1 rfl ?c2 ?c3 ?_)
         case c1 => exact R6.out.mono fun b hb _ => ⟨hb, fun e => by have := (OR.out.lt e).1; omega⟩
         case c2 => omega
         case c3 => have h9 := F6.out.size; exact Nat.le_trans hwr3 (by simpa using h9)
         intro v7 w7 ho7 hg7 hb7
         rw [← keptTo_yes HY.out hgk] at ho7
         have hA7 := (hg7.block T (by have := F6.out.size; simp at this ⊢; omega) (fun e => by have := (OR.out.lt e.symm).1; omega)).trans A6.out
         have hf7 : Fr (fun b => b = T) W3 w7 := (FI.out.trans F6.out fun i h => h.elim).grown hg7 fun k hk => .inr (OR.out.lt hk).1
         have fz7 : ∀ j, w7.frozen? ⟨T, j, none⟩ = false := fz_of hA7
         have dT7 : ∀ j, w7.cell? ⟨T, j, none⟩ = (#[.int .i64 x.base, .int .i64 x.span, .int .i64 x.prod, .int .i64 x.epoch, .int .i64 x.seq, .slice ko (keptTo f before k (isHi upto x) x.recs q).length kcap] : Array Value)[j]? := cell_of hA7
         obtain ⟨ko7, kcap7, hv7⟩ := ho7.slice
         subst hv7
         have hA8 := heap_setCell_self (o := 5) hA7 (.slice ko7 (keptTo f before k (isHi upto x) x.recs (q + 1)).length kcap7)
         simp only [List.setIfInBounds_toArray, List.set_cons_succ, List.set_cons_zero] at hA8
         have hf8 : Fr (fun b => b = T) w7 (w7.setCell ⟨T, 5, none⟩ (.slice ko7 (keptTo f before k (isHi upto x) x.recs (q + 1)).length kcap7)) := Fr.setCell (S := fun b => b = T) (p := ⟨T, 5, none⟩) (Fr.refl _ _) (.inl rfl) _
         have ho8 := ho7.fr hf8 (fun b hb e => by omega) (fun b hb e => by have := (ho7.lt hb).1; omega)
         have F8 := Lib.hid (hf7.trans hf8 fun i h => .inl h)
         have A8 := Lib.hid hA8
         have O8 := Lib.hid ho8
         clear ho7 hg7 hb7 hA7 hf7 hA8 hf8 ho8 hgk hgo d0 d1 d2 d3 d4 d5 d6 dT5
         go_wp2_with fail
         go_roundw
         case rel => exact ⟨q + 1, _, by go_num, by omega, A8.out, O8.out, F8.out⟩
         case measure => simp [intOf]; omega
        ·by_cases hold : ytm < before
         ·have hgo : goesB f before k q ⟨yat, ytm, false, ykey, true, yval, yhs⟩ = true := by simp [goesB, hold]
          have HGK := Lib.hid (show (isHi upto x || !goesB f before k q _) = false by rw [hgo, HI.out]; rfl)
          go_wp2_with fail
          go_roundw
          case rel => exact ⟨q + 1, _, by go_num, by omega, A5.out, by rw [keptTo_no HY.out HGK.out]; exact O5.out, FI.out.trans F5.out fun i h => h.elim⟩
          case measure => simp [intOf]; omega
         ·have hgo : goesB f before k q ⟨yat, ytm, false, ykey, true, yval, yhs⟩ = false := by simp [goesB, hff, hold]
          have hgk : (isHi upto x || !goesB f before k q ⟨yat, ytm, false, ykey, true, yval, yhs⟩) = true := by rw [hgo]; simp
          have hf6 := F5.out.alloc (.cells #[.int .i64 yat, .int .i64 ytm, .bool false, .string ykey, .bool true, .string yval, .slice ha yhs.length hcap] 79)
          have hac6 : ∀ j, (w5.alloc (.cells #[.int .i64 yat, .int .i64 ytm, .bool false, .string ykey, .bool true, .string yval, .slice ha yhs.length hcap] 79)).cell? ⟨w5.heap.size, j, none⟩ = (recCells ⟨yat, ytm, false, ykey, true, yval, yhs⟩ (.slice ha yhs.length hcap)).toArray[j]? := by
           intro j
           have := cell_alloc_new w5 #[.int .i64 yat, .int .i64 ytm, .bool false, .string ykey, .bool true, .string yval, .slice ha yhs.length hcap] 79 j
           first | exact this | (rw [show w5.heap.size = w5.heap.size by simp] at this; exact this)
          have hr6 : HdsR (fun b => b < w.heap.size) (w5.alloc (.cells #[.int .i64 yat, .int .i64 ytm, .bool false, .string ykey, .bool true, .string yval, .slice ha yhs.length hcap] 79)) (.slice ha yhs.length hcap) yhs := HHY.out.fr (FALL.out.tr hf6) fun _ _ h => h
          have hor6 := O5.out.old ((Fr.same _).alloc (.cells #[.int .i64 yat, .int .i64 ytm, .bool false, .string ykey, .bool true, .string yval, .slice ha yhs.length hcap] 79))
          have hA6 := (((Fr.same w5).alloc (.cells #[.int .i64 yat, .int .i64 ytm, .bool false, .string ykey, .bool true, .string yval, .slice ha yhs.length hcap] 79)).block T (by have := F5.out.size; omega) fun h => h).trans A5.out
          have F6 := Lib.hid hf6
          have AC6 := Lib.hid hac6
          have R6 := Lib.hid hr6
          have O6 := Lib.hid hor6
          have A6 := Lib.hid hA6
          clear hf6 hac6 hr6 hor6 hA6
          go_wp2_with (at_builtin; refine wpList_push_rec _ rfl (.tmp 73) (.tmp 75) rfl (fun b => b < w.heap.size) W3.heap.size _ (keptTo f before k (isHi upto x) x.recs q) rfl O6.out (w5.heap.size) 1 rfl ⟨yat, ytm, false, ykey, true, yval, yhs⟩ (.slice ha yhs.length hcap) AC6.out ?c1 rfl ?c2 ?c3 ?_)
          case c1 => exact R6.out.mono fun b hb _ => ⟨hb, fun e => by have := (OR.out.lt e).1; omega⟩
          case c2 => omega
          case c3 => have h9 := F6.out.size; exact Nat.le_trans hwr3 (by simpa using h9)
          intro v7 w7 ho7 hg7 hb7
          rw [← keptTo_yes HY.out hgk] at ho7
          have hA7 := (hg7.block T (by have := F6.out.size; simp at this ⊢; omega) (fun e => by have := (OR.out.lt e.symm).1; omega)).trans A6.out
          have hf7 : Fr (fun b => b = T) W3 w7 := (FI.out.trans F6.out fun i h => h.elim).grown hg7 fun k hk => .inr (OR.out.lt hk).1
          have fz7 : ∀ j, w7.frozen? ⟨T, j, none⟩ = false := fz_of hA7
          have dT7 : ∀ j, w7.cell? ⟨T, j, none⟩ = (#[.int .i64 x.base, .int .i64 x.span, .int .i64 x.prod, .int .i64 x.epoch, .int .i64 x.seq, .slice ko (keptTo f before k (isHi upto x) x.recs q).length kcap] : Array Value)[j]? := cell_of hA7
          obtain ⟨ko7, kcap7, hv7⟩ := ho7.slice
          subst hv7
          have hA8 := heap_setCell_self (o := 5) hA7 (.slice ko7 (keptTo f before k (isHi upto x) x.recs (q + 1)).length kcap7)
          simp only [List.setIfInBounds_toArray, List.set_cons_succ, List.set_cons_zero] at hA8
          have hf8 : Fr (fun b => b = T) w7 (w7.setCell ⟨T, 5, none⟩ (.slice ko7 (keptTo f before k (isHi upto x) x.recs (q + 1)).length kcap7)) := Fr.setCell (S := fun b => b = T) (p := ⟨T, 5, none⟩) (Fr.refl _ _) (.inl rfl) _
          have ho8 := ho7.fr hf8 (fun b hb e => by omega) (fun b hb e => by have := (ho7.lt hb).1; omega)
          have F8 := Lib.hid (hf7.trans hf8 fun i h => .inl h)
          have A8 := Lib.hid hA8
          have O8 := Lib.hid ho8
          clear ho7 hg7 hb7 hA7 hf7 hA8 hf8 ho8 hgk hgo d0 d1 d2 d3 d4 d5 d6 dT5
          go_wp2_with fail
          go_roundw
          case rel => exact ⟨q + 1, _, by go_num, by omega, A8.out, O8.out, F8.out⟩
          case measure => simp [intOf]; omega
       ·have hff : f ykey ≠ some (k, q) := hcc.1 rfl
        clear hcc
        have hgo : goesB f before k q ⟨yat, ytm, false, ykey, ygone, yval, yhs⟩ = true := by simp [goesB, hff]
        have HGK := Lib.hid (show (isHi upto x || !goesB f before k q _) = false by rw [hgo, HI.out]; rfl)
        go_wp2_with fail
        go_roundw
        case rel => exact ⟨q + 1, _, by go_num, by omega, A5.out, by rw [keptTo_no HY.out HGK.out]; exact O5.out, FI.out.trans F5.out fun i h => h.elim⟩
        case measure => simp [intOf]; omega
      ·have hgo : goesB f before k q ⟨yat, ytm, true, ykey, ygone, yval, yhs⟩ = false := by simp [goesB]
       have F5 := F4
       have hw5 := F5.out.size
       have d6 := AC.out 6
       have hA5 := (F5.out.block T (by omega) fun h => h).trans AT.out
       have dT5 : (wr.alloc (.cells #[.int .i64 yat, .int .i64 ytm, .bool true, .string ykey, .bool ygone, .string yval, .slice ha yhs.length hcap] 79)).cell? ⟨T, 5, none⟩ = some (.slice ko (keptTo f before k (isHi upto x) x.recs q).length kcap) := cell_of hA5 5
       have A5 := Lib.hid hA5
       have O5 := Lib.hid (OR.out.old F5.out)
       clear hA5
       have hgk : (isHi upto x || !goesB f before k q ⟨yat, ytm, true, ykey, ygone, yval, yhs⟩) = true := by rw [hgo]; simp
       have hf6 := F5.out.alloc (.cells #[.int .i64 yat, .int .i64 ytm, .bool true, .string ykey, .bool ygone, .string yval, .slice ha yhs.length hcap] 79)
       have hac6 : ∀ j, ((wr.alloc (.cells #[.int .i64 yat, .int .i64 ytm, .bool true, .string ykey, .bool ygone, .string yval, .slice ha yhs.length hcap] 79)).alloc (.cells #[.int .i64 yat, .int .i64 ytm, .bool true, .string ykey, .bool ygone, .string yval, .slice ha yhs.length hcap] 79)).cell? ⟨wr.heap.size + 1, j, none⟩ = (recCells ⟨yat, ytm, true, ykey, ygone, yval, yhs⟩ (.slice ha yhs.length hcap)).toArray[j]? := by
        intro j
        have := cell_alloc_new (wr.alloc (.cells #[.int .i64 yat, .int .i64 ytm, .bool true, .string ykey, .bool ygone, .string yval, .slice ha yhs.length hcap] 79)) #[.int .i64 yat, .int .i64 ytm, .bool true, .string ykey, .bool ygone, .string yval, .slice ha yhs.length hcap] 79 j
        first | exact this | (rw [show (wr.alloc (.cells #[.int .i64 yat, .int .i64 ytm, .bool true, .string ykey, .bool ygone, .string yval, .slice ha yhs.length hcap] 79)).heap.size = wr.heap.size + 1 by simp] at this; exact this)
       have hr6 : HdsR (fun b => b < w.heap.size) ((wr.alloc (.cells #[.int .i64 yat, .int .i64 ytm, .bool true, .string ykey, .bool ygone, .string yval, .slice ha yhs.length hcap] 79)).alloc (.cells #[.int .i64 yat, .int .i64 ytm, .bool true, .string ykey, .bool ygone, .string yval, .slice ha yhs.length hcap] 79)) (.slice ha yhs.length hcap) yhs := HHY.out.fr (FALL.out.tr hf6) fun _ _ h => h
       have hor6 := O5.out.old ((Fr.same _).alloc (.cells #[.int .i64 yat, .int .i64 ytm, .bool true, .string ykey, .bool ygone, .string yval, .slice ha yhs.length hcap] 79))
       have hA6 := (((Fr.same (wr.alloc (.cells #[.int .i64 yat, .int .i64 ytm, .bool true, .string ykey, .bool ygone, .string yval, .slice ha yhs.length hcap] 79))).alloc (.cells #[.int .i64 yat, .int .i64 ytm, .bool true, .string ykey, .bool ygone, .string yval, .slice ha yhs.length hcap] 79)).block T (by have := F5.out.size; omega) fun h => h).trans A5.out
       have F6 := Lib.hid hf6
       have AC6 := Lib.hid hac6
       have R6 := Lib.hid hr6
       have O6 := Lib.hid hor6
       have A6 := Lib.hid hA6
       clear hf6 hac6 hr6 hor6 hA6
       go_wp2_with (at_builtin; refine wpList_push_rec _ rfl (.tmp 73) (.tmp 75) rfl (fun b => b < w.heap.size) W3.heap.size _ (keptTo f before k (isHi upto x) x.recs q) rfl O6.out (wr.heap.size + 1) 1 rfl ⟨yat, ytm, true, ykey, ygone, yval, yhs⟩ (.slice ha yhs.length hcap) AC6.out ?c1 rfl ?c2 ?c3 ?_)
       case c1 => exact R6.out.mono fun b hb _ => ⟨hb, fun e => by have := (OR.out.lt e).1; omega⟩
       case c2 => omega
       case c3 => have h9 := F6.out.size; exact Nat.le_trans hwr3 (by simpa using h9)
       intro v7 w7 ho7 hg7 hb7
       rw [← keptTo_yes HY.out hgk] at ho7
       have hA7 := (hg7.block T (by have := F6.out.size; simp at this ⊢; omega) (fun e => by have := (OR.out.lt e.symm).1; omega)).trans A6.out
       have hf7 : Fr (fun b => b = T) W3 w7 := (FI.out.trans F6.out fun i h => h.elim).grown hg7 fun k hk => .inr (OR.out.lt hk).1
       have fz7 : ∀ j, w7.frozen? ⟨T, j, none⟩ = false := fz_of hA7
       have dT7 : ∀ j, w7.cell? ⟨T, j, none⟩ = (#[.int .i64 x.base, .int .i64 x.span, .int .i64 x.prod, .int .i64 x.epoch, .int .i64 x.seq, .slice ko (keptTo f before k (isHi upto x) x.recs q).length kcap] : Array Value)[j]? := cell_of hA7
       obtain ⟨ko7, kcap7, hv7⟩ := ho7.slice
       subst hv7
       have hA8 := heap_setCell_self (o := 5) hA7 (.slice ko7 (keptTo f before k (isHi upto x) x.recs (q + 1)).length kcap7)
       simp only [List.setIfInBounds_toArray, List.set_cons_succ, List.set_cons_zero] at hA8
       have hf8 : Fr (fun b => b = T) w7 (w7.setCell ⟨T, 5, none⟩ (.slice ko7 (keptTo f before k (isHi upto x) x.recs (q + 1)).length kcap7)) := Fr.setCell (S := fun b => b = T) (p := ⟨T, 5, none⟩) (Fr.refl _ _) (.inl rfl) _
       have ho8 := ho7.fr hf8 (fun b hb e => by omega) (fun b hb e => by have := (ho7.lt hb).1; omega)
       have F8 := Lib.hid (hf7.trans hf8 fun i h => .inl h)
       have A8 := Lib.hid hA8
       have O8 := Lib.hid ho8
       clear ho7 hg7 hb7 hA7 hf7 hA8 hf8 ho8 hgk hgo e0 e1 e2 e3 e4 e5 e6 d6 dT5 c5
       go_wp2_with fail
       go_roundw
       case rel => exact ⟨q + 1, _, by go_num, by omega, A8.out, O8.out, F8.out⟩
       case measure => simp [intOf]; omega
     ·obtain rfl : q = x.recs.length := by omega
      have hw4 : W3.heap.size ≤ wr.heap.size := hwr3
      have hkp : keptTo f before k (isHi upto x) x.recs x.recs.length = keptOf f upto before k x := rfl
      rw [hkp] at OR AT
      have hTw : T < wr.heap.size := by omega
      have dT0 := cell_of AT.out
      have dT5 : wr.cell? ⟨T, 5, none⟩ = some (.slice ko (keptOf f upto before k x).length kcap) := cell_of AT.out 5
      have hfo : Fr (fun _ => False) wo wr := FW3.out.trans FI.out fun i h => .inr (by subst h; exact hTo)
      have hrr : RecsR (fun _ => True) wr (.slice ko (keptOf f upto before k x).length kcap) (keptOf f upto before k x) := OR.out.reads (fun _ _ _ => trivial) fun _ _ _ => trivial
      have hrk : RecsR (fun b => b < w.heap.size ∨ W3.heap.size ≤ b) wr (.slice ko (keptOf f upto before k x).length kcap) (keptOf f upto before k x) := OR.out.reads (fun b h _ => .inr h) fun b h _ => .inl h
      have hob : OwnBats (fun _ => True) w.heap.size wr (.slice oo (cleanTo f g upto before l k).length ocap) (cleanTo f g upto before l k) :=
       O.out.old hfo
      have OB := Lib.hid hob
      have RK := Lib.hid hrk
      have hkl : (keptOf f upto before k x).length = (keptOf f upto before k x).length := rfl
      generalize hn0 : (keptOf f upto before k x).length = n0 at *
      have HN0 := Lib.hid hn0
      clear hn0 hkl hkp hfo hrr hrk hob
      by_cases hke : 0 < n0
      ·have hke2 : (keptOf f upto before k x).isEmpty = false := by
        have := HN0.out
        cases h : keptOf f upto before k x with
        | nil => rw [h] at this; simp at this; omega
        | cons => rfl
       have HGK := Lib.hid (show (isHi upto x || !(keptOf f upto before k x).isEmpty || g x.prod == some k) = true by rw [hke2]; simp)
       clear hke2
       have hf9 := FALL.out.alloc (.cells #[.int .i64 x.base, .int .i64 x.span, .int .i64 x.prod, .int .i64 x.epoch, .int .i64 x.seq, .slice ko n0 kcap] 36)
       have hac9 : ∀ j, (wr.alloc (.cells #[.int .i64 x.base, .int .i64 x.span, .int .i64 x.prod, .int .i64 x.epoch, .int .i64 x.seq, .slice ko n0 kcap] 36)).cell? ⟨wr.heap.size, j, none⟩ = (batCells { x with recs := keptOf f upto before k x } (.slice ko n0 kcap)).toArray[j]? := fun j => cell_alloc_new wr _ 36 j
       have hr9 := RK.out.old ((Fr.same _).alloc (.cells #[.int .i64 x.base, .int .i64 x.span, .int .i64 x.prod, .int .i64 x.epoch, .int .i64 x.seq, .slice ko n0 kcap] 36))
       have ho9 := OB.out.old ((Fr.same _).alloc (.cells #[.int .i64 x.base, .int .i64 x.span, .int .i64 x.prod, .int .i64 x.epoch, .int .i64 x.seq, .slice ko n0 kcap] 36))
       have F9 := Lib.hid hf9
       have AC9 := Lib.hid hac9
       have R9 := Lib.hid hr9
       have O9 := Lib.hid ho9
       have hOlt : ∀ b, (Value.slice oo (cleanTo f g upto before l k).length ocap).ownBlock = some b → w.heap.size ≤ b ∧ b < wo.heap.size := fun b hb => O.out.lt hb
       have hWo : wo.heap.size ≤ W3.heap.size := FW3.out.size
       clear hf9 hac9 hr9 ho9
       go_wp2_with (at_builtin; refine wpList_push_bat _ rfl (.tmp 87) (.tmp 89) rfl (fun _ => True) w.heap.size _ (cleanTo f g upto before l k) rfl O9.out wr.heap.size 1 rfl { x with recs := keptOf f upto before k x } (.slice ko n0 kcap) AC9.out ?c1 rfl ?c2 ?c3 ?_)
       case c1 => exact R9.out.mono fun b hb _ => by first | exact ⟨trivial, fun e => by have := hOlt b e; omega⟩ | exact fun e => by have := hOlt b e; omega
       case c2 => omega
       case c3 => exact F9.out.size
       intro v8 w8 ho8 hg8 hb8
       have hf8 : Fr (fun _ => False) w w8 := F9.out.grown hg8 fun k hk => .inr (O.out.lt hk).1
       rw [← cleanTo_yes HX.out HGK.out] at ho8
       have O8 := Lib.hid ho8
       have F8 := Lib.hid hf8
       clear ho8 hg8 hb8 hf8 hOlt dT0 dT5
       go_wp2_with fail
       go_roundw
       case rel => exact ⟨k + 1, by go_num, by omega, O8.out, F8.out⟩
       case measure => simp [intOf]; omega
      ·obtain rfl : n0 = 0 := by omega
       have hke2 : (keptOf f upto before k x).isEmpty = true := by have := HN0.out; simpa using this
       clear hke
       go_wp2_with fail
       refine (rlast_walk K l k x _ _ (HB.out.old FALL.out) G.out HX.out).mono ?_
       rintro e w5 ⟨c, rfl, hcc, hf5⟩
       rw [last_iff HX.out, ← EG.out] at hcc
       cases c
       ·have HGK := Lib.hid (show (isHi upto x || !(keptOf f upto before k x).isEmpty || g x.prod == some k) = false by
         rw [hke2, HI.out]
         have : ¬ g x.prod = some k := fun h => by have := hcc.2 h; cases this
         simp [this])
        have F5 := Lib.hid hf5
        clear hcc hke2 dT0 dT5 hf5
        go_wp2_with fail
        go_roundw
        case rel => exact ⟨k + 1, by go_num, by omega, by rw [cleanTo_no HX.out HGK.out]; exact OB.out.old F5.out, FALL.out.tr F5.out⟩
        case measure => simp [intOf]; omega
       ·have HGK := Lib.hid (show (isHi upto x || !(keptOf f upto before k x).isEmpty || g x.prod == some k) = true by
         rw [hcc.1 rfl]; simp)
        have AT5 := Lib.hid ((hf5.block T hTw fun h => h).trans AT.out)
        have OB5 := Lib.hid (OB.out.old hf5)
        have RK5 := Lib.hid (RK.out.old hf5)
        have FALL5 := Lib.hid (FALL.out.tr hf5)
        have FI5 := Lib.hid (FI.out.trans hf5 fun i h => h.elim)
        have hw45 := hf5.size
        clear dT0 dT5 hcc hke2 hf5
        have dT0 := cell_of AT5.out
        have hf9 := FALL5.out.alloc (.cells #[.int .i64 x.base, .int .i64 x.span, .int .i64 x.prod, .int .i64 x.epoch, .int .i64 x.seq, .slice ko 0 kcap] 36)
        have hac9 : ∀ j, (w5.alloc (.cells #[.int .i64 x.base, .int .i64 x.span, .int .i64 x.prod, .int .i64 x.epoch, .int .i64 x.seq, .slice ko 0 kcap] 36)).cell? ⟨w5.heap.size, j, none⟩ = (batCells { x with recs := keptOf f upto before k x } (.slice ko 0 kcap)).toArray[j]? := fun j => cell_alloc_new w5 _ 36 j
        have hr9 := RK5.out.old ((Fr.same _).alloc (.cells #[.int .i64 x.base, .int .i64 x.span, .int .i64 x.prod, .int .i64 x.epoch, .int .i64 x.seq, .slice ko 0 kcap] 36))
        have ho9 := OB5.out.old ((Fr.same _).alloc (.cells #[.int .i64 x.base, .int .i64 x.span, .int .i64 x.prod, .int .i64 x.epoch, .int .i64 x.seq, .slice ko 0 kcap] 36))
        have F9 := Lib.hid hf9
        have AC9 := Lib.hid hac9
        have R9 := Lib.hid hr9
        have O9 := Lib.hid ho9
        have hOlt : ∀ b, (Value.slice oo (cleanTo f g upto before l k).length ocap).ownBlock = some b → w.heap.size ≤ b ∧ b < wo.heap.size := fun b hb => O.out.lt hb
        have hWo : wo.heap.size ≤ W3.heap.size := FW3.out.size
        clear hf9 hac9 hr9 ho9
        go_wp2_with (at_builtin; refine wpList_push_bat _ rfl (.tmp 87) (.tmp 89) rfl (fun _ => True) w.heap.size _ (cleanTo f g upto before l k) rfl O9.out w5.heap.size 1 rfl { x with recs := keptOf f upto before k x } (.slice ko 0 kcap) AC9.out ?c1 rfl ?c2 ?c3 ?_)
        case c1 => exact R9.out.mono fun b hb _ => by first | exact ⟨trivial, fun e => by have := hOlt b e; omega⟩ | exact fun e => by have := hOlt b e; omega
        case c2 => omega
        case c3 => exact F9.out.size
        intro v8 w8 ho8 hg8 hb8
        have hf8 : Fr (fun _ => False) w w8 := F9.out.grown hg8 fun k hk => .inr (O.out.lt hk).1
        rw [← cleanTo_yes HX.out HGK.out] at ho8
        have O8 := Lib.hid ho8
        have F8 := Lib.hid hf8
        clear ho8 hg8 hb8 hf8 hOlt dT0
        go_wp2_with fail
        go_roundw
        case rel => exact ⟨k + 1, by go_num, by omega, O8.out, F8.out⟩
        case measure => simp [intOf]; omega
  ·go_wp2_with fail
   go_ret
   refine ⟨_, rfl, ?_, F.out⟩
   obtain rfl : k = l.length := by omega
   exact O.out.reads (fun b hb _ => trivial) fun b hb _ => trivial
end Go.Proofs.YtdlnafhhkpklmaaGreatDoor
