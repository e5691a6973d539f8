/- clean.Clean: the walk. -/
import Derived.Test.YtdlnafhhkpklmaaGreatDoorY27
namespace Go.Proofs.YtdlnafhhkpklmaaGreatDoor
open Go.RowKit Go.Fm Go.BigFrame
set_option linter.unusedVariables false
set_option linter.unusedSimpArgs false
/-- Does a record go? -/
def BatsPost (K : Nat → Prop) (w : World) (bs : List Bat) (e : Ending) (w' : World) : Prop := ∃ v, e = .returned v ∧ BatsR K w' v bs ∧ Fr (fun _ => False) w w'
def goesB (f : ByteArray → Option (Nat × Nat)) (before : Int) (i k : Nat) (r : Rec) : Bool :=
 !r.bare && ((f r.key != some (i, k)) || (r.gone && decide (r.tm < before)))
def keptTo (f : ByteArray → Option (Nat × Nat)) (before : Int) (i : Nat) (hi : Bool) (rs : List Rec) : Nat → List Rec
 | 0 => []
 | k + 1 => match rs[k]? with
  | some r => if hi || !goesB f before i k r then keptTo f before i hi rs k ++ [r] else keptTo f before i hi rs k
  | none => keptTo f before i hi rs k
def isHi (upto : Int) (b : Bat) : Bool := decide (upto < b.base + b.span)
def keptOf (f : ByteArray → Option (Nat × Nat)) (upto before : Int) (i : Nat) (b : Bat) : List Rec := keptTo f before i (isHi upto b) b.recs b.recs.length
def cleanTo (f : ByteArray → Option (Nat × Nat)) (g : Int → Option Nat) (upto before : Int) (l : List Bat) : Nat → List Bat
 | 0 => []
 | i + 1 => match l[i]? with
  | some b => if isHi upto b || !(keptOf f upto before i b).isEmpty || g b.prod == some i then cleanTo f g upto before l i ++ [{ b with recs := keptOf f upto before i b }] else cleanTo f g upto before l i
  | none => cleanTo f g upto before l i
theorem keptTo_yes {f : ByteArray → Option (Nat × Nat)} {before : Int} {i k : Nat} {hi : Bool} {rs : List Rec} {r : Rec} (h : rs[k]? = some r) (hg : (hi || !goesB f before i k r) = true) : keptTo f before i hi rs (k + 1) = keptTo f before i hi rs k ++ [r] := by
 simp only [keptTo, h, hg, if_true]
theorem keptTo_no {f : ByteArray → Option (Nat × Nat)} {before : Int} {i k : Nat} {hi : Bool} {rs : List Rec} {r : Rec} (h : rs[k]? = some r) (hg : (hi || !goesB f before i k r) = false) : keptTo f before i hi rs (k + 1) = keptTo f before i hi rs k := by
 simp only [keptTo, h, hg]; simp
theorem keptTo_len (f : ByteArray → Option (Nat × Nat)) (before : Int) (i : Nat) (hi : Bool) (rs : List Rec) : ∀ k, (keptTo f before i hi rs k).length ≤ k
 | 0 => Nat.le_refl _
 | k + 1 => by
  have ih := keptTo_len f before i hi rs k
  simp only [keptTo]
  split
  ·split
   ·simp; omega
   ·omega
  ·omega
theorem cleanTo_yes {f : ByteArray → Option (Nat × Nat)} {g : Int → Option Nat} {upto before : Int} {l : List Bat} {i : Nat} {b : Bat} (h : l[i]? = some b) (hg : (isHi upto b || !(keptOf f upto before i b).isEmpty || g b.prod == some i) = true) :
  cleanTo f g upto before l (i + 1) = cleanTo f g upto before l i ++ [{ b with recs := keptOf f upto before i b }] := by
 simp only [cleanTo, h, hg, if_true]
theorem cleanTo_no {f : ByteArray → Option (Nat × Nat)} {g : Int → Option Nat} {upto before : Int} {l : List Bat} {i : Nat} {b : Bat} (h : l[i]? = some b) (hg : (isHi upto b || !(keptOf f upto before i b).isEmpty || g b.prod == some i) = false) :
  cleanTo f g upto before l (i + 1) = cleanTo f g upto before l i := by
 simp only [cleanTo, h, hg]; simp
theorem cleanTo_len (f : ByteArray → Option (Nat × Nat)) (g : Int → Option Nat) (upto before : Int) (l : List Bat) : ∀ k, (cleanTo f g upto before l k).length ≤ k
 | 0 => Nat.le_refl _
 | k + 1 => by
  have ih := cleanTo_len f g upto before l k
  simp only [cleanTo]
  split
  ·split
   ·simp; omega
   ·omega
  ·omega
/-- The key of a record that has one is there. -/
theorem keysIn_some {i : Nat} {rs : List Rec} {f : ByteArray → Option (Nat × Nat)} {s : ByteArray} (h : ∃ p, f s = some p) : ∀ k : Nat, ∃ p, keysIn i rs f k s = some p
 | 0 => h
 | k + 1 => by
  have ih := keysIn_some (i := i) (rs := rs) h k
  cases hr : rs[k]? with
  | none => simp only [keysIn, hr]; exact ih
  | some r =>
   cases hb : r.bare with
   | true => rw [keysIn_bare hr hb]; exact ih
   | false =>
    rw [keysIn_key hr hb]
    by_cases e : s = r.key
    ·exact ⟨(i, k), by simp [e]⟩
    ·obtain ⟨p, hp⟩ := ih; exact ⟨p, by simp [e, hp]⟩
theorem keysIn_at {i : Nat} {rs : List Rec} {f : ByteArray → Option (Nat × Nat)} {j : Nat} {r : Rec} (hr : rs[j]? = some r) (hb : r.bare = false) : ∀ k : Nat, j < k → ∃ p, keysIn i rs f k r.key = some p
 | 0, h => by omega
 | k + 1, h => by
  by_cases e : j = k
  ·subst e
   rw [keysIn_key hr hb]
   exact ⟨(i, j), by simp⟩
  ·obtain ⟨p, hp⟩ := keysIn_at (f := f) (i := i) hr hb k (by omega)
   cases hr2 : rs[k]? with
   | none => simp only [keysIn, hr2]; exact ⟨p, hp⟩
   | some r2 =>
    cases hb2 : r2.bare with
    | true => rw [keysIn_bare hr2 hb2]; exact ⟨p, hp⟩
    | false =>
     rw [keysIn_key hr2 hb2]
     by_cases e : r.key = r2.key
     ·exact ⟨(i, k), by simp [e]⟩
     ·exact ⟨p, by simp [e, hp]⟩
theorem keysTo_at {l : List Bat} {i j : Nat} {b : Bat} {r : Rec} (hb : l[i]? = some b) (hr : b.recs[j]? = some r) (hk : r.bare = false) : ∀ n, i < n → ∃ p, keysTo l n r.key = some p
 | 0, h => by omega
 | n + 1, h => by
  by_cases e : i = n
  ·subst e
   rw [keysTo_next hb]
   exact keysIn_at hr hk _ (List.getElem?_eq_some_iff.1 hr).1
  ·have ih := keysTo_at hb hr hk n (by omega)
   cases hb2 : l[n]? with
   | none => simp only [keysTo, hb2]; exact ih
   | some b2 => rw [keysTo_next hb2]; exact keysIn_some ih _
theorem OwnRecs.made {K : Nat → Prop} {B : Nat} {w : World} {v : Value} (h : w.ownsRow B 79 7 v 0 []) : OwnRecs K B w v [] := ⟨[], rfl, h, fun z hz => by cases hz⟩
theorem OwnBats.mono {K K' : Nat → Prop} {B : Nat} {w : World} {v : Value} {bs : List Bat} (h : OwnBats K B w v bs) (hk : ∀ b, K b → b < w.heap.size → K' b) : OwnBats K' B w v bs := by
 obtain ⟨zs, h1, h2, h3⟩ := h
 exact ⟨zs, h1, h2, fun z hz => (h3 z hz).mono fun b hb hl => ⟨hk b hb.1 hl, hb.2⟩⟩
set_option maxRecDepth 100000 in
set_option maxHeartbeats 16000000 in
theorem clean_walk (K : Nat → Prop) (l : List Bat) (upto before : Int) (v : Value) (w : World) (h : BatsR K w v l) (hg : GoodL l) :
  Calls Tryz.prog 66 #[v, .int .i64 upto, .int .i64 before] w (BatsPost (fun b => w.heap.size ≤ b) w (cleanTo (keysTo l l.length) (ownersTo l l.length) upto before l l.length)) := by
 have hh := h
 obtain ⟨oa, cap, rfl, hcl⟩ := hh
 have H := Lib.hid hcl
 have HB := Lib.hid h
 have G := Lib.hid hg
 have hl8 := hg.len
 clear h hg hcl
 obtain ⟨f, hf⟩ : ∃ f, f = keysTo l l.length := ⟨_, rfl⟩
 obtain ⟨g, hg⟩ : ∃ g, g = ownersTo l l.length := ⟨_, rfl⟩
 rw [← hf, ← hg]
 have EF := Lib.hid hf
 have EG := Lib.hid hg
 clear hf hg
 go_enter Tryz.func66, Tryz.ntmps66
 go_wp2_with fail
 refine (lasts_walk K l _ _ HB.out G.out).mono ?_
 rintro e w1 ⟨kb, ob, rfl, ⟨nk, hkm⟩, ⟨no, hom⟩, hkb, hob, hf1⟩
 rw [← EF.out] at hkm
 rw [← EG.out] at hom
 have HKM := Lib.hid hkm
 have HOM := Lib.hid hom
 have F1 := Lib.hid hf1
 clear hkm hom hf1
 go_wp2_with fail
 go_loopw [9, 25] (fun o i wr => ∃ k : Nat, i = .int .i64 k ∧ k ≤ l.length ∧ OwnBats (fun b => w1.heap.size ≤ b) w1.heap.size wr o (cleanTo f g upto before l k) ∧ Fr (fun _ => False) w1 wr) (fun _ i _ => l.length - (intOf i).toNat)
 case atStart => exact ⟨0, rfl, Nat.zero_le _, OwnBats.nil _ _ _, Fr.same _⟩
 case round =>
  obtain ⟨k, rfl, hk, ho, hf⟩ := hrel
  have O := Lib.hid ho
  have F := Lib.hid hf
  clear ho hf
  obtain ⟨oo, ocap, rfl⟩ := O.out.slice
  obtain ⟨wo, hwo⟩ : ∃ wo, wo = wr := ⟨_, rfl⟩
  subst hwo
  rcases Nat.lt_or_ge k l.length with hlt | hge
  ·obtain ⟨x, hx⟩ := get_of_lt hlt
   obtain ⟨a, rv, rfl, -, hc, hr⟩ := H.out k x hx
   have HX := Lib.hid hx
   have HG := Lib.hid (G.out.bats x (List.mem_of_getElem? hx))
   have hfw := F1.out.tr F.out
   obtain ⟨ra, rcap, rfl, hrr⟩ := hr
   have HRR := Lib.hid hrr
   have hlen50 := HG.out.len
   obtain ⟨c0, c1, c2, c3, c4, c5⟩ := hc.to (hfw.block _ hc.lt fun h => h)
   obtain ⟨i39, hi, hz, hs39, hb39⟩ := info_parts info39
   have hf2 := (Fr.same wo).alloc (.cells (batCells x (.slice ra x.recs.length rcap)).toArray 36)
   have hA : (wo.alloc (.cells (batCells x (.slice ra x.recs.length rcap)).toArray 36)).heap[wo.heap.size]? = some (.cells (batCells x (.slice ra x.recs.length rcap)).toArray 36 (0, 0)) := heap_alloc_self wo _
   have d5 : (wo.alloc (.cells (batCells x (.slice ra x.recs.length rcap)).toArray 36)).cell? ⟨wo.heap.size, 5, none⟩ = some (.slice ra x.recs.length rcap) := cell_alloc_new wo _ 36 5
   unfold batCells at hf2 hA d5
   have F2 := Lib.hid hf2
   have HA := Lib.hid hA
   have D5 := Lib.hid d5
   clear hx hc hfw hrr hf2 hA
   go_wp2_with (at_make; refine wpList_make_own _ rfl _ _ 34 rfl (wo.heap.size + 1) 79 i39 _ 7 Tryz.underlying34 hi hz hs39 _ _ _ x.recs.length rfl rfl rfl (by rw [hb39]; omega) (by unfold maxLen; omega) (by simp) ?_)
   intro w3 ho3 hg3
   have hsz : wo.heap.size + 1 = (wo.alloc (.cells #[.int .i64 x.base, .int .i64 x.span, .int .i64 x.prod, .int .i64 x.epoch, .int .i64 x.seq, .slice ra x.recs.length rcap] 36)).heap.size := by simp
   generalize (wo.alloc (.cells #[.int .i64 x.base, .int .i64 x.span, .int .i64 x.prod, .int .i64 x.epoch, .int .i64 x.seq, .slice ra x.recs.length rcap] 36)) = W2 at *
   have hf3 : Fr (fun _ => False) W2 w3 := (Fr.same W2).grown hg3 fun k hk => by cases hk
   have F3 := Lib.hid hf3
   have OR := Lib.hid (OwnRecs.made (K := fun b => wo.heap.size + 1 ≤ b) ho3)
   have d5 := hf3.cel D5.out
   have HSZ := Lib.hid hsz
   have EHI := Lib.hid (show isHi upto x = decide (upto < x.base + x.span) from rfl)
   obtain ⟨hb0, hb1⟩ := HG.out.base
   obtain ⟨hs0, hs1⟩ := HG.out.span
   clear c0 c1 c2 c3 c4 c5 hi hz hs39 hb39 ho3 hg3 hf3 hsz
   clear i39
   go_wp2_with fail
   clear d5
   go_loopw [12, 37] (fun kv i wr => ∃ q : Nat, i = .int .i64 q ∧ q ≤ x.recs.length ∧ OwnRecs (fun b => wo.heap.size + 1 ≤ b) (wo.heap.size + 1) wr kv (keptTo f before k (isHi upto x) x.recs q) ∧ Fr (fun _ => False) W2 wr) (fun _ i _ => x.recs.length - (intOf i).toNat)
   case atStart => exact ⟨0, rfl, Nat.zero_le _, OR.out, F3.out⟩
   case round =>
    obtain ⟨q, rfl, hq, ho, hf⟩ := hrel
    clear OR F3
    have OR := Lib.hid ho
    have FI := Lib.hid hf
    clear ho hf
    obtain ⟨ko, kcap, rfl⟩ := OR.out.slice
    rcases Nat.lt_or_ge q x.recs.length with hq1 | hq1
    ·obtain ⟨y, hy⟩ := get_of_lt hq1
     obtain ⟨a2, hv, rfl, -, hcy, hhy⟩ := HRR.out q y hy
     have hfall := ((F1.out.tr F.out).tr F2.out).tr FI.out
     have hhy1 := hhy.old hfall
     obtain ⟨ha, hcap, rfl, -⟩ := hhy
     have HY := Lib.hid hy
     obtain ⟨hkey3, hhl, -, -⟩ := HG.out.recs y (List.mem_of_getElem? hy)
     have hkey : y.key.size ≤ maxLen := by unfold maxLen; omega
     obtain ⟨e0, e1, e2, e3, e4, e5, e6⟩ := hcy.to (hfall.block _ hcy.lt fun h => h)
     have hfa := (Fr.same wr).alloc (.cells (recCells y (.slice ha y.hs.length hcap)).toArray 79)
     have hAa : (wr.alloc (.cells (recCells y (.slice ha y.hs.length hcap)).toArray 79)).heap[wr.heap.size]? = some (.cells (recCells y (.slice ha y.hs.length hcap)).toArray 79 (0, 0)) := heap_alloc_self wr _
     have d6 : (wr.alloc (.cells (recCells y (.slice ha y.hs.length hcap)).toArray 79)).cell? ⟨wr.heap.size, 6, none⟩ = some (.slice ha y.hs.length hcap) := cell_alloc_new wr _ 79 6
     have hhy2 := hhy1.old hfa
     unfold recCells at hfa hAa d6 hhy2
     have HH := Lib.hid hhy2
     have FA := Lib.hid hfa
     have AA := Lib.hid hAa
     clear hy hcy hfall hhy1 hfa hAa hhy2
     go_wp2_with fail
     refine (hclone_walk K y.hs _ _ HH.out (by omega)).mono ?_
     rintro e w4 ⟨hv2, rfl, hr4, hf4⟩
     have hf4' := FA.out.tr hf4
     have hw4 : wr.heap.size ≤ w4.heap.size := hf4'.size
     have hA4 := (hf4.block wr.heap.size (by simp) fun h => h).trans AA.out
     obtain ⟨hb2, hcap2, hvv, -⟩ := id hr4
     subst hvv
     have fz4 : ∀ j, w4.frozen? ⟨wr.heap.size, j, none⟩ = false := by intro j; simp [World.frozen?, hA4]
     have dd4 : ∀ j, w4.cell? ⟨wr.heap.size, j, none⟩ = (#[.int .i64 y.at', .int .i64 y.tm, .bool y.bare, .string y.key, .bool y.gone, .string y.val, .slice ha y.hs.length hcap] : Array Value)[j]? := by intro j; simp [World.cell?, hA4]
     have hA5 := heap_setCell_self (o := 6) hA4 (.slice hb2 y.hs.length hcap2)
     have dd5 : ∀ j, (w4.setCell ⟨wr.heap.size, 6, none⟩ (.slice hb2 y.hs.length hcap2)).cell? ⟨wr.heap.size, j, none⟩ = (#[.int .i64 y.at', .int .i64 y.tm, .bool y.bare, .string y.key, .bool y.gone, .string y.val, .slice hb2 y.hs.length hcap2] : Array Value)[j]? := by intro j; simp [World.cell?, hA5]
     have hf5 : Fr (fun _ => False) wr (w4.setCell ⟨wr.heap.size, 6, none⟩ (.slice hb2 y.hs.length hcap2)) := hf4'.setCell (.inr (Nat.le_refl _)) _
     have hr5 : HdsR (fun b => wr.heap.size + 1 ≤ b) (w4.setCell ⟨wr.heap.size, 6, none⟩ (.slice hb2 y.hs.length hcap2)) (.slice hb2 y.hs.length hcap2) y.hs :=
      (hr4.fr (S := fun k => k = wr.heap.size) (Fr.setCell (S := fun k => k = wr.heap.size) (p := ⟨wr.heap.size, 6, none⟩) (Fr.refl _ _) (.inl rfl) _) (fun b hb => by simp at hb; omega)).mono fun b hb _ => by simpa using hb
     have hor5 := OR.out.old hf5
     have hf25 := FI.out.tr hf5
     have hf15 := (F.out.tr F2.out).tr hf25
     have hkm5 := HKM.out.fr hf15 fun h => h
     have db0 : (w4.setCell ⟨wr.heap.size, 6, none⟩ (.slice hb2 y.hs.length hcap2)).cell? ⟨wo.heap.size, 0, none⟩ = some (.int .i64 x.base) := hf25.cel (by simp [World.cell?, HA.out])
     have db1 : (w4.setCell ⟨wr.heap.size, 6, none⟩ (.slice hb2 y.hs.length hcap2)).cell? ⟨wo.heap.size, 1, none⟩ = some (.int .i64 x.span) := hf25.cel (by simp [World.cell?, HA.out])
     have look5 := hkm5.look y.key hkey
     have hsz5 : (w4.setCell ⟨wr.heap.size, 6, none⟩ (.slice hb2 y.hs.length hcap2)).heap.size = w4.heap.size := by simp [World.setCell]
     have hacell : ∀ j, ((w4.setCell ⟨wr.heap.size, 6, none⟩ (.slice hb2 y.hs.length hcap2)).alloc (.cells (recCells y (.slice hb2 y.hs.length hcap2)).toArray 79)).cell? ⟨w4.heap.size, j, none⟩ = (recCells y (.slice hb2 y.hs.length hcap2)).toArray[j]? := by rw [← hsz5]; exact fun j => cell_alloc_new _ _ 79 j
     have HAC := Lib.hid hacell
     have HR5 := Lib.hid (hr5.old ((Fr.same _).alloc (.cells (recCells y (.slice hb2 y.hs.length hcap2)).toArray 79)))
     have OR5 := Lib.hid (hor5.old ((Fr.same _).alloc (.cells (recCells y (.slice hb2 y.hs.length hcap2)).toArray 79)))
     have FB := Lib.hid (hf5.alloc (.cells (recCells y (.slice hb2 y.hs.length hcap2)).toArray 79))
     have FC := Lib.hid hf25
     unfold recCells at HAC HR5 OR5 FB
     have hkq := keptTo_len f before k (isHi upto x) x.recs q
     have hwo1 : wo.heap.size + 1 ≤ wr.heap.size := by rw [HSZ.out]; exact FI.out.size
     clear d6 hr4 hf4 hf4' hA4 hA5 hf5 hr5 hf25 hf15 hkm5 hsz5 hacell e0 e1 e2 e3 e4 e5 e6 HH AA
     have OR8 := Lib.hid hor5
     clear hor5
     rcases y with ⟨yat, ytm, ybare, ykey, ygone, yval, yhs⟩
     dsimp only at *
     cases ybare
     ·obtain ⟨⟨p1, p2⟩, hp⟩ : ∃ p, f ykey = some p := by rw [EF.out]; exact keysTo_at HX.out HY.out rfl _ hlt
      rw [hp] at look5
      dsimp only [spotVal] at look5
      by_cases hp1 : p1 = k
      ·subst hp1
       by_cases hp2 : p2 = q
       ·subst hp2
        cases ygone
        ·have hgo : goesB f before p1 p2 ⟨yat, ytm, false, ykey, false, yval, yhs⟩ = false := by simp [goesB, hp]
         by_cases hhi : upto < x.base + x.span
         ·have hgk : (isHi upto x || !goesB f before p1 p2 ⟨yat, ytm, false, ykey, false, yval, yhs⟩) = true := by rw [hgo, EHI.out]; simp [hhi]
          go_wp2_with (at_builtin; refine wpList_push_rec _ rfl (.tmp 80) (.tmp 82) rfl (fun b => wo.heap.size + 1 ≤ b) (wo.heap.size + 1) _ (keptTo f before p1 (isHi upto x) x.recs p2) rfl OR5.out w4.heap.size 1 rfl ⟨yat, ytm, false, ykey, false, yval, yhs⟩ (.slice hb2 yhs.length hcap2) HAC.out ?c1 rfl ?c2 ?c3 ?_)
          case c1 => exact HR5.out.mono fun b hb _ => ⟨by omega, fun e => by have := (OR.out.lt e).2; omega⟩
          case c2 => omega
          case c3 => first | exact Nat.le_trans hwo1 FB.out.size | omega
          intro v7 w7 ho7 hg7 hb7
          have hf7 : Fr (fun _ => False) W2 w7 := (FI.out.tr FB.out).grown hg7 fun k hk => .inr (by have := (OR.out.lt hk).1; rw [← HSZ.out]; exact this)
          rw [← keptTo_yes HY.out hgk] at ho7
          have OR7 := Lib.hid ho7
          have F7 := Lib.hid hf7
          clear ho7 hg7 hb7 hf7 hgk fz4 dd4 dd5 db0 db1 look5 hgo
          go_wp2_with fail
          go_roundw
          case rel => exact ⟨p2 + 1, by go_num, by omega, OR7.out, F7.out⟩
          case measure => simp [intOf]; omega
         ·have hgk : (isHi upto x || !goesB f before p1 p2 ⟨yat, ytm, false, ykey, false, yval, yhs⟩) = true := by rw [hgo, EHI.out]; simp [hhi]
          go_wp2_with (at_builtin; refine wpList_push_rec _ rfl (.tmp 80) (.tmp 82) rfl (fun b => wo.heap.size + 1 ≤ b) (wo.heap.size + 1) _ (keptTo f before p1 (isHi upto x) x.recs p2) rfl OR5.out w4.heap.size 1 rfl ⟨yat, ytm, false, ykey, false, yval, yhs⟩ (.slice hb2 yhs.length hcap2) HAC.out ?c1 rfl ?c2 ?c3 ?_)
          case c1 => exact HR5.out.mono fun b hb _ => ⟨by omega, fun e => by have := (OR.out.lt e).2; omega⟩
          case c2 => omega
          case c3 => first | exact Nat.le_trans hwo1 FB.out.size | omega
          intro v7 w7 ho7 hg7 hb7
          have hf7 : Fr (fun _ => False) W2 w7 := (FI.out.tr FB.out).grown hg7 fun k hk => .inr (by have := (OR.out.lt hk).1; rw [← HSZ.out]; exact this)
          rw [← keptTo_yes HY.out hgk] at ho7
          have OR7 := Lib.hid ho7
          have F7 := Lib.hid hf7
          clear ho7 hg7 hb7 hf7 hgk fz4 dd4 dd5 db0 db1 look5 hgo
          go_wp2_with fail
          go_roundw
          case rel => exact ⟨p2 + 1, by go_num, by omega, OR7.out, F7.out⟩
          case measure => simp [intOf]; omega
        ·by_cases hold : ytm < before
         ·have hgo : goesB f before p1 p2 ⟨yat, ytm, false, ykey, true, yval, yhs⟩ = true := by simp [goesB, hold]
          by_cases hhi : upto < x.base + x.span
          ·have hgk : (isHi upto x || !goesB f before p1 p2 ⟨yat, ytm, false, ykey, true, yval, yhs⟩) = true := by rw [hgo, EHI.out]; simp [hhi]
           go_wp2_with (at_builtin; refine wpList_push_rec _ rfl (.tmp 80) (.tmp 82) rfl (fun b => wo.heap.size + 1 ≤ b) (wo.heap.size + 1) _ (keptTo f before p1 (isHi upto x) x.recs p2) rfl OR5.out w4.heap.size 1 rfl ⟨yat, ytm, false, ykey, true, yval, yhs⟩ (.slice hb2 yhs.length hcap2) HAC.out ?c1 rfl ?c2 ?c3 ?_)
           case c1 => exact HR5.out.mono fun b hb _ => ⟨by omega, fun e => by have := (OR.out.lt e).2; omega⟩
           case c2 => omega
           case c3 => first | exact Nat.le_trans hwo1 FB.out.size | omega
           intro v7 w7 ho7 hg7 hb7
           have hf7 : Fr (fun _ => False) W2 w7 := (FI.out.tr FB.out).grown hg7 fun k hk => .inr (by have := (OR.out.lt hk).1; rw [← HSZ.out]; exact this)
           rw [← keptTo_yes HY.out hgk] at ho7
           have OR7 := Lib.hid ho7
           have F7 := Lib.hid hf7
           clear ho7 hg7 hb7 hf7 hgk fz4 dd4 dd5 db0 db1 look5 hgo
           go_wp2_with fail
           go_roundw
           case rel => exact ⟨p2 + 1, by go_num, by omega, OR7.out, F7.out⟩
           case measure => simp [intOf]; omega
          ·have hgk : (isHi upto x || !goesB f before p1 p2 ⟨yat, ytm, false, ykey, true, yval, yhs⟩) = false := by rw [hgo, EHI.out]; simp [hhi]
           have HGK := Lib.hid hgk
           clear hgk hgo
           go_wp2_with fail
           go_roundw
           case rel => exact ⟨p2 + 1, by go_num, by omega, by rw [keptTo_no HY.out HGK.out]; exact OR8.out, FC.out⟩
           case measure => simp [intOf]; omega
         ·have hgo : goesB f before p1 p2 ⟨yat, ytm, false, ykey, true, yval, yhs⟩ = false := by simp [goesB, hp, hold]
          by_cases hhi : upto < x.base + x.span
          ·have hgk : (isHi upto x || !goesB f before p1 p2 ⟨yat, ytm, false, ykey, true, yval, yhs⟩) = true := by rw [hgo, EHI.out]; simp [hhi]
           go_wp2_with (at_builtin; refine wpList_push_rec _ rfl (.tmp 80) (.tmp 82) rfl (fun b => wo.heap.size + 1 ≤ b) (wo.heap.size + 1) _ (keptTo f before p1 (isHi upto x) x.recs p2) rfl OR5.out w4.heap.size 1 rfl ⟨yat, ytm, false, ykey, true, yval, yhs⟩ (.slice hb2 yhs.length hcap2) HAC.out ?c1 rfl ?c2 ?c3 ?_)
           case c1 => exact HR5.out.mono fun b hb _ => ⟨by omega, fun e => by have := (OR.out.lt e).2; omega⟩
           case c2 => omega
           case c3 => first | exact Nat.le_trans hwo1 FB.out.size | omega
           intro v7 w7 ho7 hg7 hb7
           have hf7 : Fr (fun _ => False) W2 w7 := (FI.out.tr FB.out).grown hg7 fun k hk => .inr (by have := (OR.out.lt hk).1; rw [← HSZ.out]; exact this)
           rw [← keptTo_yes HY.out hgk] at ho7
           have OR7 := Lib.hid ho7
           have F7 := Lib.hid hf7
           clear ho7 hg7 hb7 hf7 hgk fz4 dd4 dd5 db0 db1 look5 hgo
           go_wp2_with fail
           go_roundw
           case rel => exact ⟨p2 + 1, by go_num, by omega, OR7.out, F7.out⟩
           case measure => simp [intOf]; omega
          ·have hgk : (isHi upto x || !goesB f before p1 p2 ⟨yat, ytm, false, ykey, true, yval, yhs⟩) = true := by rw [hgo, EHI.out]; simp [hhi]
           go_wp2_with (at_builtin; refine wpList_push_rec _ rfl (.tmp 80) (.tmp 82) rfl (fun b => wo.heap.size + 1 ≤ b) (wo.heap.size + 1) _ (keptTo f before p1 (isHi upto x) x.recs p2) rfl OR5.out w4.heap.size 1 rfl ⟨yat, ytm, false, ykey, true, yval, yhs⟩ (.slice hb2 yhs.length hcap2) HAC.out ?c1 rfl ?c2 ?c3 ?_)
           case c1 => exact HR5.out.mono fun b hb _ => ⟨by omega, fun e => by have := (OR.out.lt e).2; omega⟩
           case c2 => omega
           case c3 => first | exact Nat.le_trans hwo1 FB.out.size | omega
           intro v7 w7 ho7 hg7 hb7
           have hf7 : Fr (fun _ => False) W2 w7 := (FI.out.tr FB.out).grown hg7 fun k hk => .inr (by have := (OR.out.lt hk).1; rw [← HSZ.out]; exact this)
           rw [← keptTo_yes HY.out hgk] at ho7
           have OR7 := Lib.hid ho7
           have F7 := Lib.hid hf7
           clear ho7 hg7 hb7 hf7 hgk fz4 dd4 dd5 db0 db1 look5 hgo
           go_wp2_with fail
           go_roundw
           case rel => exact ⟨p2 + 1, by go_num, by omega, OR7.out, F7.out⟩
           case measure => simp [intOf]; omega
       ·have hgo : goesB f before p1 q ⟨yat, ytm, false, ykey, ygone, yval, yhs⟩ = true := by simp [goesB, hp, hp2]
        by_cases hhi : upto < x.base + x.span
        ·have hgk : (isHi upto x || !goesB f before p1 q ⟨yat, ytm, false, ykey, ygone, yval, yhs⟩) = true := by rw [hgo, EHI.out]; simp [hhi]
         go_wp2_with (at_builtin; refine wpList_push_rec _ rfl (.tmp 80) (.tmp 82) rfl (fun b => wo.heap.size + 1 ≤ b) (wo.heap.size + 1) _ (keptTo f before p1 (isHi upto x) x.recs q) rfl OR5.out w4.heap.size 1 rfl ⟨yat, ytm, false, ykey, ygone, yval, yhs⟩ (.slice hb2 yhs.length hcap2) HAC.out ?c1 rfl ?c2 ?c3 ?_)
         case c1 => exact HR5.out.mono fun b hb _ => ⟨by omega, fun e => by have := (OR.out.lt e).2; omega⟩
         case c2 => omega
         case c3 => first | exact Nat.le_trans hwo1 FB.out.size | omega
         intro v7 w7 ho7 hg7 hb7
         have hf7 : Fr (fun _ => False) W2 w7 := (FI.out.tr FB.out).grown hg7 fun k hk => .inr (by have := (OR.out.lt hk).1; rw [← HSZ.out]; exact this)
         rw [← keptTo_yes HY.out hgk] at ho7
         have OR7 := Lib.hid ho7
         have F7 := Lib.hid hf7
         clear ho7 hg7 hb7 hf7 hgk fz4 dd4 dd5 db0 db1 look5 hgo
         go_wp2_with fail
         go_roundw
         case rel => exact ⟨q + 1, by go_num, by omega, OR7.out, F7.out⟩
         case measure => simp [intOf]; omega
        ·have hgk : (isHi upto x || !goesB f before p1 q ⟨yat, ytm, false, ykey, ygone, yval, yhs⟩) = false := by rw [hgo, EHI.out]; simp [hhi]
         have HGK := Lib.hid hgk
         clear hgk hgo
         go_wp2_with fail
         go_roundw
         case rel => exact ⟨q + 1, by go_num, by omega, by rw [keptTo_no HY.out HGK.out]; exact OR8.out, FC.out⟩
         case measure => simp [intOf]; omega
      ·have hgo : goesB f before k q ⟨yat, ytm, false, ykey, ygone, yval, yhs⟩ = true := by simp [goesB, hp, hp1]
       by_cases hhi : upto < x.base + x.span
       ·have hgk : (isHi upto x || !goesB f before k q ⟨yat, ytm, false, ykey, ygone, yval, yhs⟩) = true := by rw [hgo, EHI.out]; simp [hhi]
        go_wp2_with (at_builtin; refine wpList_push_rec _ rfl (.tmp 80) (.tmp 82) rfl (fun b => wo.heap.size + 1 ≤ b) (wo.heap.size + 1) _ (keptTo f before k (isHi upto x) x.recs q) rfl OR5.out w4.heap.size 1 rfl ⟨yat, ytm, false, ykey, ygone, yval, yhs⟩ (.slice hb2 yhs.length hcap2) HAC.out ?c1 rfl ?c2 ?c3 ?_)
        case c1 => exact HR5.out.mono fun b hb _ => ⟨by omega, fun e => by have := (OR.out.lt e).2; omega⟩
        case c2 => omega
        case c3 => first | exact Nat.le_trans hwo1 FB.out.size | omega
        intro v7 w7 ho7 hg7 hb7
        have hf7 : Fr (fun _ => False) W2 w7 := (FI.out.tr FB.out).grown hg7 fun k hk => .inr (by have := (OR.out.lt hk).1; rw [← HSZ.out]; exact this)
        rw [← keptTo_yes HY.out hgk] at ho7
        have OR7 := Lib.hid ho7
        have F7 := Lib.hid hf7
        clear ho7 hg7 hb7 hf7 hgk fz4 dd4 dd5 db0 db1 look5 hgo
        go_wp2_with fail
        go_roundw
        case rel => exact ⟨q + 1, by go_num, by omega, OR7.out, F7.out⟩
        case measure => simp [intOf]; omega
       ·have hgk : (isHi upto x || !goesB f before k q ⟨yat, ytm, false, ykey, ygone, yval, yhs⟩) = false := by rw [hgo, EHI.out]; simp [hhi]
        have HGK := Lib.hid hgk
        clear hgk hgo
        go_wp2_with fail
        go_roundw
        case rel => exact ⟨q + 1, by go_num, by omega, by rw [keptTo_no HY.out HGK.out]; exact OR8.out, FC.out⟩
        case measure => simp [intOf]; omega
     ·have hgo : goesB f before k q ⟨yat, ytm, true, ykey, ygone, yval, yhs⟩ = false := by simp [goesB]
      by_cases hhi : upto < x.base + x.span
      ·have hgk : (isHi upto x || !goesB f before k q ⟨yat, ytm, true, ykey, ygone, yval, yhs⟩) = true := by rw [hgo, EHI.out]; simp [hhi]
       go_wp2_with (at_builtin; refine wpList_push_rec _ rfl (.tmp 80) (.tmp 82) rfl (fun b => wo.heap.size + 1 ≤ b) (wo.heap.size + 1) _ (keptTo f before k (isHi upto x) x.recs q) rfl OR5.out w4.heap.size 1 rfl ⟨yat, ytm, true, ykey, ygone, yval, yhs⟩ (.slice hb2 yhs.length hcap2) HAC.out ?c1 rfl ?c2 ?c3 ?_)
       case c1 => exact HR5.out.mono fun b hb _ => ⟨by omega, fun e => by have := (OR.out.lt e).2; omega⟩
       case c2 => omega
       case c3 => first | exact Nat.le_trans hwo1 FB.out.size | omega
       intro v7 w7 ho7 hg7 hb7
       have hf7 : Fr (fun _ => False) W2 w7 := (FI.out.tr FB.out).grown hg7 fun k hk => .inr (by have := (OR.out.lt hk).1; rw [← HSZ.out]; exact this)
       rw [← keptTo_yes HY.out hgk] at ho7
       have OR7 := Lib.hid ho7
       have F7 := Lib.hid hf7
       clear ho7 hg7 hb7 hf7 hgk fz4 dd4 dd5 db0 db1 look5 hgo
       go_wp2_with fail
       go_roundw
       case rel => exact ⟨q + 1, by go_num, by omega, OR7.out, F7.out⟩
       case measure => simp [intOf]; omega
      ·have hgk : (isHi upto x || !goesB f before k q ⟨yat, ytm, true, ykey, ygone, yval, yhs⟩) = true := by rw [hgo, EHI.out]; simp [hhi]
       go_wp2_with (at_builtin; refine wpList_push_rec _ rfl (.tmp 80) (.tmp 82) rfl (fun b => wo.heap.size + 1 ≤ b) (wo.heap.size + 1) _ (keptTo f before k (isHi upto x) x.recs q) rfl OR5.out w4.heap.size 1 rfl ⟨yat, ytm, true, ykey, ygone, yval, yhs⟩ (.slice hb2 yhs.length hcap2) HAC.out ?c1 rfl ?c2 ?c3 ?_)
       case c1 => exact HR5.out.mono fun b hb _ => ⟨by omega, fun e => by have := (OR.out.lt e).2; omega⟩
       case c2 => omega
       case c3 => first | exact Nat.le_trans hwo1 FB.out.size | omega
       intro v7 w7 ho7 hg7 hb7
       have hf7 : Fr (fun _ => False) W2 w7 := (FI.out.tr FB.out).grown hg7 fun k hk => .inr (by have := (OR.out.lt hk).1; rw [← HSZ.out]; exact this)
       rw [← keptTo_yes HY.out hgk] at ho7
       have OR7 := Lib.hid ho7
       have F7 := Lib.hid hf7
       clear ho7 hg7 hb7 hf7 hgk fz4 dd4 dd5 db0 db1 look5 hgo
       go_wp2_with fail
       go_roundw
       case rel => exact ⟨q + 1, by go_num, by omega, OR7.out, F7.out⟩
       case measure => simp [intOf]; omega
    ·obtain rfl : q = x.recs.length := by omega
     have hor : OwnRecs (fun b => wo.heap.size + 1 ≤ b) (wo.heap.size + 1) wr (.slice ko (keptOf f upto before k x).length kcap) (keptOf f upto before k x) := OR.out
     have hkl : (keptTo f before k (isHi upto x) x.recs x.recs.length) = keptOf f upto before k x := rfl
     rw [hkl]
     clear hkl
     have hwo1 : wo.heap.size + 1 ≤ wr.heap.size := by rw [HSZ.out]; exact FI.out.size
     have hA6 := (FI.out.block wo.heap.size (by rw [← HSZ.out]; omega) fun h => h).trans HA.out
     have fz6 : ∀ j, wr.frozen? ⟨wo.heap.size, j, none⟩ = false := by intro j; simp [World.frozen?, hA6]
     have dd6 : ∀ j, wr.cell? ⟨wo.heap.size, j, none⟩ = (#[.int .i64 x.base, .int .i64 x.span, .int .i64 x.prod, .int .i64 x.epoch, .int .i64 x.seq, .slice ra x.recs.length rcap] : Array Value)[j]? := by intro j; simp [World.cell?, hA6]
     have hA7 := heap_setCell_self (o := 5) hA6 (.slice ko (keptOf f upto before k x).length kcap)
     have dd7 : ∀ j, (wr.setCell ⟨wo.heap.size, 5, none⟩ (.slice ko (keptOf f upto before k x).length kcap)).cell? ⟨wo.heap.size, j, none⟩ = (#[.int .i64 x.base, .int .i64 x.span, .int .i64 x.prod, .int .i64 x.epoch, .int .i64 x.seq, .slice ko (keptOf f upto before k x).length kcap] : Array Value)[j]? := by intro j; simp [World.cell?, hA7]
     have hfo : Fr (fun k => k = wo.heap.size) wo (wr.setCell ⟨wo.heap.size, 5, none⟩ (.slice ko (keptOf f upto before k x).length kcap)) :=
      Fr.setCell (S := fun k => k = wo.heap.size) (p := ⟨wo.heap.size, 5, none⟩) ((F2.out.tr FI.out).mono fun k h => h.elim) (.inl rfl) _
     have hfi : Fr (fun k => k = wo.heap.size) wr (wr.setCell ⟨wo.heap.size, 5, none⟩ (.slice ko (keptOf f upto before k x).length kcap)) :=
      Fr.setCell (S := fun k => k = wo.heap.size) (p := ⟨wo.heap.size, 5, none⟩) (Fr.refl _ _) (.inl rfl) _
     have hf7 : Fr (fun _ => False) w1 (wr.setCell ⟨wo.heap.size, 5, none⟩ (.slice ko (keptOf f upto before k x).length kcap)) :=
      ((F.out.tr F2.out).tr FI.out).setCell (.inr F.out.size) _
     have hob7 := ((O.out.mono (K' := fun b => w1.heap.size ≤ b ∧ b < wo.heap.size) fun b hb hl => ⟨hb, hl⟩).fr hfo (fun b hb e => by have := hb.2; omega) (fun b hb e => by have := (O.out.lt hb).2; omega)).mono (K' := fun b => w1.heap.size ≤ b) fun b hb _ => hb.1
     have hr7 : RecsR (fun b => wo.heap.size + 1 ≤ b) (wr.setCell ⟨wo.heap.size, 5, none⟩ (.slice ko (keptOf f upto before k x).length kcap)) _ _ :=
      (hor.reads (K' := fun b => wo.heap.size + 1 ≤ b) (fun b hb _ => hb) (fun b hb _ => hb)).fr hfi fun b hb e => by omega
     have look7 := (HOM.out.fr hf7 fun h => h).look_ok x.prod HG.out.prod
     have hsz7 : (wr.setCell ⟨wo.heap.size, 5, none⟩ (.slice ko (keptOf f upto before k x).length kcap)).heap.size = wr.heap.size := by simp [World.setCell]
     have hacell : ∀ j, ((wr.setCell ⟨wo.heap.size, 5, none⟩ (.slice ko (keptOf f upto before k x).length kcap)).alloc (.cells (batCells x (.slice ko (keptOf f upto before k x).length kcap)).toArray 36)).cell? ⟨wr.heap.size, j, none⟩ = (batCells x (.slice ko (keptOf f upto before k x).length kcap)).toArray[j]? := by rw [← hsz7]; exact fun j => cell_alloc_new _ _ 36 j
     have HAC := Lib.hid hacell
     have FW := Lib.hid hf7
     have OB := Lib.hid hob7
     have hfz := (Fr.same (wr.setCell ⟨wo.heap.size, 5, none⟩ (.slice ko (keptOf f upto before k x).length kcap))).alloc (.cells (batCells x (.slice ko (keptOf f upto before k x).length kcap)).toArray 36)
     have OB7 := Lib.hid (hob7.old hfz)
     have HR7 := Lib.hid (hr7.old hfz)
     have F7 := Lib.hid (hf7.tr hfz)
     unfold batCells at HAC OB7 HR7 F7
     have hcl := cleanTo_len f g upto before l k
     clear hA6 hA7 hfo hfi hf7 hob7 hr7 hsz7 hacell hfz hor
     generalize hn0 : (keptOf f upto before k x).length = n0 at *
     have HN0 := Lib.hid hn0
     clear hn0
     by_cases hhi : upto < x.base + x.span
     ·have hgk : (isHi upto x || !(keptOf f upto before k x).isEmpty || g x.prod == some k) = true := by rw [EHI.out]; simp [hhi]
      go_wp2_with (at_builtin; refine wpList_push_bat _ rfl (.tmp 114) (.tmp 116) rfl (fun b => w1.heap.size ≤ b) w1.heap.size _ (cleanTo f g upto before l k) rfl OB7.out wr.heap.size 1 rfl { x with recs := keptOf f upto before k x } (.slice ko _ kcap) HAC.out ?c1 rfl ?c2 ?c3 ?_)
      case c1 => exact HR7.out.mono fun b hb _ => ⟨by have := F.out.size; omega, fun e => by have := (O.out.lt e).2; omega⟩
      case c2 => omega
      case c3 => first | exact F7.out.size | (have := F7.out.size; simpa using this)
      intro v8 w8 ho8 hg8 hb8
      have hf8 : Fr (fun _ => False) w1 w8 := F7.out.grown hg8 fun k hk => .inr (O.out.lt hk).1
      rw [← cleanTo_yes HX.out hgk] at ho8
      have O8 := Lib.hid ho8
      have F8 := Lib.hid hf8
      clear ho8 hg8 hb8 hf8 hgk
      go_wp2_with fail
      go_roundw
      case rel => exact ⟨k + 1, by go_num, by omega, O8.out, F8.out⟩
      case measure => simp [intOf]; omega
     ·by_cases hke : n0 = 0
      ·have hke2 : (keptOf f upto before k x).isEmpty = true := by have := HN0.out; rw [hke] at this; simpa using this
       subst hke
       cases hgp : g x.prod with
       | none =>
        rw [hgp] at look7
        have hgk : (isHi upto x || !(keptOf f upto before k x).isEmpty || g x.prod == some k) = false := by rw [EHI.out, hke2, hgp]; simp [hhi]
        have HGK := Lib.hid hgk
        clear hgk hgp
        simp only [Option.getD_none, Option.getD_some, Option.isSome_none, Option.isSome_some] at look7
        go_wp2_with fail
        go_roundw
        case rel => exact ⟨k + 1, by go_num, by omega, by rw [cleanTo_no HX.out HGK.out]; exact OB.out, FW.out⟩
        case measure => simp [intOf]; omega
       | some p =>
        rw [hgp] at look7
        by_cases hpk : p = k
        ·subst hpk
         have hgk : (isHi upto x || !(keptOf f upto before p x).isEmpty || g x.prod == some p) = true := by rw [hgp]; simp
         simp only [Option.getD_none, Option.getD_some, Option.isSome_none, Option.isSome_some] at look7
         go_wp2_with (at_builtin; refine wpList_push_bat _ rfl (.tmp 114) (.tmp 116) rfl (fun b => w1.heap.size ≤ b) w1.heap.size _ (cleanTo f g upto before l p) rfl OB7.out wr.heap.size 1 rfl { x with recs := keptOf f upto before p x } (.slice ko _ kcap) HAC.out ?c1 rfl ?c2 ?c3 ?_)
         case c1 => exact HR7.out.mono fun b hb _ => ⟨by have := F.out.size; omega, fun e => by have := (O.out.lt e).2; omega⟩
         case c2 => omega
         case c3 => first | exact F7.out.size | (have := F7.out.size; simpa using this)
         intro v8 w8 ho8 hg8 hb8
         have hf8 : Fr (fun _ => False) w1 w8 := F7.out.grown hg8 fun k hk => .inr (O.out.lt hk).1
         rw [← cleanTo_yes HX.out hgk] at ho8
         have O8 := Lib.hid ho8
         have F8 := Lib.hid hf8
         clear ho8 hg8 hb8 hf8 hgk
         go_wp2_with fail
         go_roundw
         case rel => exact ⟨p + 1, by go_num, by omega, O8.out, F8.out⟩
         case measure => simp [intOf]; omega
        ·have hgk : (isHi upto x || !(keptOf f upto before k x).isEmpty || g x.prod == some k) = false := by rw [EHI.out, hke2, hgp]; simp [hhi, hpk]
         have HGK := Lib.hid hgk
         clear hgk hgp
         simp only [Option.getD_none, Option.getD_some, Option.isSome_none, Option.isSome_some] at look7
         go_wp2_with fail
         go_roundw
         case rel => exact ⟨k + 1, by go_num, by omega, by rw [cleanTo_no HX.out HGK.out]; exact OB.out, FW.out⟩
         case measure => simp [intOf]; omega
      ·have hke2 : (keptOf f upto before k x).isEmpty = false := by
        have := HN0.out
        cases h : keptOf f upto before k x with
        | nil => rw [h] at this; exact absurd this.symm hke
        | cons => rfl
       have hke3 : 0 < n0 := by omega
       have hgk : (isHi upto x || !(keptOf f upto before k x).isEmpty || g x.prod == some k) = true := by rw [hke2]; simp
       go_wp2_with (at_builtin; refine wpList_push_bat _ rfl (.tmp 114) (.tmp 116) rfl (fun b => w1.heap.size ≤ b) w1.heap.size _ (cleanTo f g upto before l k) rfl OB7.out wr.heap.size 1 rfl { x with recs := keptOf f upto before k x } (.slice ko _ kcap) HAC.out ?c1 rfl ?c2 ?c3 ?_)
       case c1 => exact HR7.out.mono fun b hb _ => ⟨by have := F.out.size; omega, fun e => by have := (O.out.lt e).2; omega⟩
       case c2 => omega
       case c3 => first | exact F7.out.size | (have := F7.out.size; simpa using this)
       intro v8 w8 ho8 hg8 hb8
       have hf8 : Fr (fun _ => False) w1 w8 := F7.out.grown hg8 fun k hk => .inr (O.out.lt hk).1
       rw [← cleanTo_yes HX.out hgk] at ho8
       have O8 := Lib.hid ho8
       have F8 := Lib.hid hf8
       clear ho8 hg8 hb8 hf8 hgk
       go_wp2_with fail
       go_roundw
       case rel => exact ⟨k + 1, by go_num, by omega, O8.out, F8.out⟩
       case measure => simp [intOf]; omega
  ·go_wp2_with fail
   go_ret
   refine ⟨_, rfl, ?_, F1.out.tr F.out⟩
   obtain rfl : k = l.length := by omega
   exact O.out.reads (fun b hb _ => Nat.le_trans F1.out.size hb) fun b hb _ => Nat.le_trans F1.out.size hb
end Go.Proofs.YtdlnafhhkpklmaaGreatDoor
