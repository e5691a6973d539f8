/- lasts: the walk. -/
import Derived.Test.YtdlnafhhkpklmaaGreatDoorY4
import Derived.Test.YtdlnafhhkpklmaaGreatDoorY26
namespace Go.Proofs.YtdlnafhhkpklmaaGreatDoor
open Go.RowKit Go.Fm Go.BigFrame
set_option linter.unusedVariables false
set_option linter.unusedSimpArgs false
/-- What is asked of a batch: few records of few headers, numbers that do not pass an int64. -/
structure GoodB (b : Bat) : Prop where
 len : b.recs.length ≤ 50
 recs : ∀ r ∈ b.recs, r.key.size ≤ 3000 ∧ r.hs.length ≤ 12 ∧ 0 ≤ r.at' ∧ r.at' ≤ 1000
 base : 0 ≤ b.base ∧ b.base ≤ 2199023255552
 span : 0 ≤ b.span ∧ b.span ≤ 1000
 prod : (Lit.int .i64 b.prod).wf = true
structure GoodL (l : List Bat) : Prop where
 len : l.length ≤ 8
 bats : ∀ b ∈ l, GoodB b
def keysIn (i : Nat) (rs : List Rec) (f : ByteArray → Option (Nat × Nat)) : Nat → ByteArray → Option (Nat × Nat)
 | 0 => f
 | k + 1 => match rs[k]? with
  | some r => if r.bare then keysIn i rs f k else fun t => if t = r.key then some (i, k) else keysIn i rs f k t
  | none => keysIn i rs f k
def keysTo (l : List Bat) : Nat → ByteArray → Option (Nat × Nat)
 | 0 => fun _ => none
 | i + 1 => match l[i]? with
  | some b => keysIn i b.recs (keysTo l i) b.recs.length
  | none => keysTo l i
def ownersTo (l : List Bat) : Nat → Int → Option Nat
 | 0 => fun _ => none
 | i + 1 => match l[i]? with
  | some b => if 0 ≤ b.prod then fun p => if p = b.prod then some i else ownersTo l i p else ownersTo l i
  | none => ownersTo l i
theorem keysIn_bare {i : Nat} {rs : List Rec} {f : ByteArray → Option (Nat × Nat)} {k : Nat} {r : Rec} (h : rs[k]? = some r) (hb : r.bare = true) : keysIn i rs f (k + 1) = keysIn i rs f k := by
 simp [keysIn, h, hb]
theorem keysIn_key {i : Nat} {rs : List Rec} {f : ByteArray → Option (Nat × Nat)} {k : Nat} {r : Rec} (h : rs[k]? = some r) (hb : r.bare = false) : keysIn i rs f (k + 1) = fun t => if t = r.key then some (i, k) else keysIn i rs f k t := by
 simp [keysIn, h, hb]
theorem keysTo_next {l : List Bat} {i : Nat} {b : Bat} (h : l[i]? = some b) : keysTo l (i + 1) = keysIn i b.recs (keysTo l i) b.recs.length := by simp [keysTo, h]
theorem ownersTo_yes {l : List Bat} {i : Nat} {b : Bat} (h : l[i]? = some b) (hp : 0 ≤ b.prod) : ownersTo l (i + 1) = fun p => if p = b.prod then some i else ownersTo l i p := by simp [ownersTo, h, hp]
theorem ownersTo_no {l : List Bat} {i : Nat} {b : Bat} (h : l[i]? = some b) (hp : ¬ 0 ≤ b.prod) : ownersTo l (i + 1) = ownersTo l i := by simp [ownersTo, h, hp]
def LastsPost (w : World) (l : List Bat) (e : Ending) (w' : World) : Prop :=
 ∃ kb ob, e = .returned (.tuple #[.map (some kb), .map (some ob)]) ∧ (∃ n, KeysM w' kb n (keysTo l l.length)) ∧ (∃ n, OwnersM w' ob n (ownersTo l l.length)) ∧ w.heap.size ≤ kb ∧ w.heap.size ≤ ob ∧ Fr (fun _ => False) w w'
/-- The two maps of the walk. -/
structure TwoMaps (w wr : World) (kb ob n : Nat) (f : ByteArray → Option (Nat × Nat)) (g : Int → Option Nat) : Prop where
 keys : KeysM wr kb n f
 owners : OwnersM wr ob n g
 kle : w.heap.size ≤ kb
 ole : w.heap.size ≤ ob
 ne : kb ≠ ob
 fr : Fr (fun _ => False) w wr
theorem TwoMaps.old {w wr w' : World} {kb ob n : Nat} {f : ByteArray → Option (Nat × Nat)} {g : Int → Option Nat} (h : TwoMaps w wr kb ob n f g) (hf : Fr (fun _ => False) wr w') : TwoMaps w w' kb ob n f g :=
 ⟨h.keys.fr hf fun h => h, h.owners.fr hf fun h => h, h.kle, h.ole, h.ne, h.fr.tr hf⟩
theorem KeysM.mono {w : World} {b n n' : Nat} {f : ByteArray → Option (Nat × Nat)} (h : KeysM w b n f) (hn : n ≤ n') : KeysM w b n' f := by
 obtain ⟨D, h1, h2⟩ := h; exact ⟨D, h1.mono hn, h2⟩
theorem OwnersM.mono {w : World} {b n n' : Nat} {f : Int → Option Nat} (h : OwnersM w b n f) (hn : n ≤ n') : OwnersM w b n' f := by
 obtain ⟨D, h1, h2⟩ := h; exact ⟨D, h1.mono hn, h2⟩
theorem TwoMaps.setKey {w wr w' : World} {kb ob n : Nat} {f f' : ByteArray → Option (Nat × Nat)} {g : Int → Option Nat} (h : TwoMaps w wr kb ob n f g) (hk : KeysM w' kb (n + 1) f') (hg : wr.grownBy w' (some kb)) : TwoMaps w w' kb ob (n + 1) f' g :=
 ⟨hk, (h.owners.fr (S := fun k => k = kb) ((Fr.refl _ _).grown hg fun k hk => .inl (by injection hk with hk; exact hk.symm)) (fun e => h.ne e.symm)).mono (Nat.le_succ _), h.kle, h.ole, h.ne,
  h.fr.grown hg fun k hk => .inr (by injection hk with hk; exact hk ▸ h.kle)⟩
theorem TwoMaps.setOwner {w wr w' : World} {kb ob n : Nat} {f : ByteArray → Option (Nat × Nat)} {g g' : Int → Option Nat} (h : TwoMaps w wr kb ob n f g) (hk : OwnersM w' ob (n + 1) g') (hg : wr.grownBy w' (some ob)) : TwoMaps w w' kb ob (n + 1) f g' :=
 ⟨(h.keys.fr (S := fun k => k = ob) ((Fr.refl _ _).grown hg fun k hk => .inl (by injection hk with hk; exact hk.symm)) (fun e => h.ne e)).mono (Nat.le_succ _), hk, h.kle, h.ole, h.ne,
  h.fr.grown hg fun k hk => .inr (by injection hk with hk; exact hk ▸ h.ole)⟩
theorem TwoMaps.made (w : World) : TwoMaps w ((w.alloc (.map #[] 0)).alloc (.map #[] 0)) w.heap.size (w.heap.size + 1) 0 (fun _ => none) (fun _ => none) :=
 ⟨(KeysM.made w).fr (S := fun _ => False) ((Fr.refl _ _).alloc _) (fun h => h), by simpa using OwnersM.made (w.alloc (.map #[] 0)), Nat.le_refl _, by omega, by omega, ((Fr.same w).alloc _).alloc _⟩
set_option maxRecDepth 100000 in
set_option maxHeartbeats 8000000 in
theorem lasts_walk (K : Nat → Prop) (l : List Bat) (v : Value) (w : World) (h : BatsR K w v l) (hg : GoodL l) :
  Calls Tryz.prog 72 #[v] w (LastsPost w l) := by
 obtain ⟨oa, cap, rfl, h⟩ := h
 have H := Lib.hid h
 have G := Lib.hid hg.bats
 have hl8 := hg.len
 obtain ⟨kb, hkb⟩ : ∃ kb, kb = w.heap.size := ⟨_, rfl⟩
 obtain ⟨ob, hob⟩ : ∃ ob, ob = w.heap.size + 1 := ⟨_, rfl⟩
 have htm0 : TwoMaps w ((w.alloc (.map #[] 0)).alloc (.map #[] 0)) kb ob 0 (fun _ => none) (fun _ => none) := by rw [hkb, hob]; exact TwoMaps.made w
 have hmm := @run_makeMap Tryz.prog
 clear h hg
 go_enter Tryz.func72, Tryz.ntmps72
 go_wp2_with fail
 rw [← hob, ← hkb]
 clear hkb hob hmm
 generalize ((w.alloc (.map #[] 0)).alloc (.map #[] 0)) = W at *
 have TM := Lib.hid htm0
 clear htm0
 go_loopw [12] (fun i wr => ∃ k n : Nat, i = .int .i64 k ∧ k ≤ l.length ∧ n ≤ 1000 * k ∧ TwoMaps w wr kb ob n (keysTo l k) (ownersTo l k)) (fun i _ => l.length - (intOf i).toNat)
 case atStart => exact ⟨0, 0, rfl, Nat.zero_le _, Nat.zero_le _, TM.out⟩
 case round =>
  obtain ⟨k, n, rfl, hk, hn, htm⟩ := hrel
  clear TM
  have TM := Lib.hid htm
  clear htm
  rcases Nat.lt_or_ge k l.length with hlt | hge
  ·obtain ⟨x, hx⟩ := get_of_lt hlt
   obtain ⟨a, rv, rfl, -, hc, hr⟩ := H.out k x hx
   have hg := G.out x (List.mem_of_getElem? hx)
   have HX := Lib.hid hx
   have hfw := TM.out.fr
   obtain ⟨ra, rcap, rfl, hrr⟩ := hr
   obtain ⟨c0, c1, c2, c3, c4, c5⟩ := hc.to (hfw.block _ hc.lt fun h => h)
   have HG := Lib.hid hg
   have hlen50 := hg.len
   have hf1 := (Fr.same wr).alloc (.cells (batCells x (.slice ra x.recs.length rcap)).toArray 36)
   have d2 : (wr.alloc (.cells (batCells x (.slice ra x.recs.length rcap)).toArray 36)).cell? ⟨wr.heap.size, 2, none⟩ = some (.int .i64 x.prod) := cell_alloc_new wr _ 36 2
   have d5 : (wr.alloc (.cells (batCells x (.slice ra x.recs.length rcap)).toArray 36)).cell? ⟨wr.heap.size, 5, none⟩ = some (.slice ra x.recs.length rcap) := cell_alloc_new wr _ 36 5
   unfold batCells at hf1 d2 d5
   have F1 := Lib.hid hf1
   have HRR := Lib.hid hrr
   have D5 := Lib.hid d5
   clear hx hc hfw hg hf1 hrr
   have hin : ∃ _ : Unit, 0 ≤ x.prod ∨ ¬ 0 ≤ x.prod := ⟨(), Classical.em _⟩
   obtain ⟨-, hp | hp⟩ := hin
   ·go_wp2_with (at_mapUpdate; refine wpList_owners _ rfl (.tmp 20) (.tmp 22) (.tmp 23) rfl ob n (ownersTo l k) rfl (TM.out.old F1.out).owners (by omega) x.prod rfl HG.out.prod k (by omega) rfl ?_)
    intro w3 ho3 hg3
    have ht3 : TwoMaps w w3 kb ob (n + 1) (keysTo l k) _ := (TM.out.old F1.out).setOwner ho3 hg3
    rw [← ownersTo_yes HX.out hp] at ht3
    have d5 := cell_keep D5.out (hg3.block _ (by simp) (fun e => by have := TM.out.owners.lt; injection e with e; dsimp only at e; omega))
    have TM3 := Lib.hid (show TwoMaps w w3 kb ob (n + 1) (keysIn k x.recs (keysTo l k) 0) (ownersTo l (k + 1)) from ht3)
    have hn1 : n + 1 ≤ 1000 * k + 1 := by omega
    generalize n + 1 = n1 at *
    clear ht3 hg3 ho3 d2 c0 c1 c2 c3 c4 c5
    go_wp2_with fail
    go_loopw [27] (fun i wr => ∃ q n1 : Nat, i = .int .i64 q ∧ q ≤ x.recs.length ∧ n1 ≤ 1000 * k + 1 + q ∧ TwoMaps w wr kb ob n1 (keysIn k x.recs (keysTo l k) q) (ownersTo l (k + 1))) (fun i _ => x.recs.length - (intOf i).toNat)
    case atStart => exact ⟨0, n1, rfl, Nat.zero_le _, by omega, TM3.out⟩
    case round =>
     obtain ⟨q, n2, rfl, hq, hn2, htm⟩ := hrel
     have TM4 := Lib.hid htm
     clear htm
     rcases Nat.lt_or_ge q x.recs.length with hq1 | hq1
     ·obtain ⟨y, hy⟩ := get_of_lt hq1
      obtain ⟨a2, hv, rfl, -, hcy, hhy⟩ := HRR.out q y hy
      obtain ⟨ha, hcap, rfl, -⟩ := hhy
      have HY := Lib.hid hy
      obtain ⟨e0, e1, e2, e3, e4, e5, e6⟩ := hcy.to (TM4.out.fr.block _ hcy.lt fun h => h)
      have hkey : y.key.size ≤ maxLen := by have := (HG.out.recs y (List.mem_of_getElem? hy)).1; unfold maxLen; omega
      have TM5 := Lib.hid (TM4.out.old ((Fr.same wr).alloc (.cells #[.int .i64 y.at', .int .i64 y.tm, .bool y.bare, .string y.key, .bool y.gone, .string y.val, .slice ha y.hs.length hcap] 79)))
      clear hy hcy
      cases hbare : y.bare
      ·rw [hbare] at e2 TM5
       go_wp2_with (at_mapUpdate; refine wpList_keys _ rfl (.tmp 35) (.tmp 37) (.tmp 40) rfl kb n2 (keysIn k x.recs (keysTo l k) q) rfl TM5.out.keys (by omega) y.key rfl hkey (k, q) rfl ?_)
       intro w6 hk6 hg6
       have ht6 : TwoMaps w w6 kb ob (n2 + 1) _ (ownersTo l (k + 1)) := TM5.out.setKey hk6 hg6
       rw [← keysIn_key HY.out hbare] at ht6
       have TM6 := Lib.hid ht6
       clear ht6 hk6 hg6 e0 e1 e2 e3 e4 e5 e6 hkey
       go_wp2_with fail
       go_roundw
       case rel => exact ⟨q + 1, n2 + 1, by go_num, by omega, by omega, TM6.out⟩
       case measure => simp [intOf]; omega
      ·rw [hbare] at e2 TM5
       have ht6 := TM5.out
       rw [← keysIn_bare HY.out hbare] at ht6
       have TM6 := Lib.hid ht6
       clear ht6
       go_wp2_with fail
       go_roundw
       case rel => exact ⟨q + 1, n2, by go_num, by omega, by omega, TM6.out⟩
       case measure => simp [intOf]; omega
     ·have hq2 : q = x.recs.length := by omega
      have ht6 := TM4.out
      rw [hq2, ← keysTo_next HX.out] at ht6
      have TM6 := Lib.hid ht6
      clear ht6 hq2
      go_wp2_with fail
      go_roundw
      case rel => exact ⟨k + 1, n2, by go_num, by omega, by omega, TM6.out⟩
      case measure => simp [intOf]; omega
   ·go_wp2_with fail
    generalize (wr.alloc (.cells #[.int .i64 x.base, .int .i64 x.span, .int .i64 x.prod, .int .i64 x.epoch, .int .i64 x.seq, .slice ra x.recs.length rcap] 36)) = w3 at *
    have ht3 := TM.out.old F1.out
    rw [← ownersTo_no HX.out (by omega)] at ht3
    have TM3 := Lib.hid (show TwoMaps w w3 kb ob n (keysIn k x.recs (keysTo l k) 0) (ownersTo l (k + 1)) from ht3)
    have hn1 : n ≤ 1000 * k + 1 := by omega
    clear ht3 d2 c0 c1 c2 c3 c4 c5
    generalize n = n1 at *
    go_loopw [27] (fun i wr => ∃ q n1 : Nat, i = .int .i64 q ∧ q ≤ x.recs.length ∧ n1 ≤ 1000 * k + 1 + q ∧ TwoMaps w wr kb ob n1 (keysIn k x.recs (keysTo l k) q) (ownersTo l (k + 1))) (fun i _ => x.recs.length - (intOf i).toNat)
    case atStart => exact ⟨0, n1, rfl, Nat.zero_le _, by omega, TM3.out⟩
    case round =>
     obtain ⟨q, n2, rfl, hq, hn2, htm⟩ := hrel
     have TM4 := Lib.hid htm
     clear htm
     rcases Nat.lt_or_ge q x.recs.length with hq1 | hq1
     ·obtain ⟨y, hy⟩ := get_of_lt hq1
      obtain ⟨a2, hv, rfl, -, hcy, hhy⟩ := HRR.out q y hy
      obtain ⟨ha, hcap, rfl, -⟩ := hhy
      have HY := Lib.hid hy
      obtain ⟨e0, e1, e2, e3, e4, e5, e6⟩ := hcy.to (TM4.out.fr.block _ hcy.lt fun h => h)
      have hkey : y.key.size ≤ maxLen := by have := (HG.out.recs y (List.mem_of_getElem? hy)).1; unfold maxLen; omega
      have TM5 := Lib.hid (TM4.out.old ((Fr.same wr).alloc (.cells #[.int .i64 y.at', .int .i64 y.tm, .bool y.bare, .string y.key, .bool y.gone, .string y.val, .slice ha y.hs.length hcap] 79)))
      clear hy hcy
      cases hbare : y.bare
      ·rw [hbare] at e2 TM5
       go_wp2_with (at_mapUpdate; refine wpList_keys _ rfl (.tmp 35) (.tmp 37) (.tmp 40) rfl kb n2 (keysIn k x.recs (keysTo l k) q) rfl TM5.out.keys (by omega) y.key rfl hkey (k, q) rfl ?_)
       intro w6 hk6 hg6
       have ht6 : TwoMaps w w6 kb ob (n2 + 1) _ (ownersTo l (k + 1)) := TM5.out.setKey hk6 hg6
       rw [← keysIn_key HY.out hbare] at ht6
       have TM6 := Lib.hid ht6
       clear ht6 hk6 hg6 e0 e1 e2 e3 e4 e5 e6 hkey
       go_wp2_with fail
       go_roundw
       case rel => exact ⟨q + 1, n2 + 1, by go_num, by omega, by omega, TM6.out⟩
       case measure => simp [intOf]; omega
      ·rw [hbare] at e2 TM5
       have ht6 := TM5.out
       rw [← keysIn_bare HY.out hbare] at ht6
       have TM6 := Lib.hid ht6
       clear ht6
       go_wp2_with fail
       go_roundw
       case rel => exact ⟨q + 1, n2, by go_num, by omega, by omega, TM6.out⟩
       case measure => simp [intOf]; omega
     ·have hq2 : q = x.recs.length := by omega
      have ht6 := TM4.out
      rw [hq2, ← keysTo_next HX.out] at ht6
      have TM6 := Lib.hid ht6
      clear ht6 hq2
      go_wp2_with fail
      go_roundw
      case rel => exact ⟨k + 1, n2, by go_num, by omega, by omega, TM6.out⟩
      case measure => simp [intOf]; omega
  ·go_wp2_with fail
   go_ret2
   obtain rfl : k = l.length := by omega
   exact ⟨kb, ob, rfl, ⟨n, TM.out.keys⟩, ⟨n, TM.out.owners⟩, TM.out.kle, TM.out.ole, TM.out.fr⟩
end Go.Proofs.YtdlnafhhkpklmaaGreatDoor
/- Latest, of the program and of the document: the walks. -/
namespace Go.Proofs.YtdlnafhhkpklmaaGreatDoor
open Go.RowKit Go.Fm Go.BigFrame
set_option linter.unusedVariables false
set_option linter.unusedSimpArgs false
/-- A record with this key stands there. -/
def Hit (l : List Bat) (s : ByteArray) (i k : Nat) : Prop := ∃ b r, l[i]? = some b ∧ b.recs[k]? = some r ∧ r.bare = false ∧ r.key = s
/-- (i, k) comes behind (j, m). -/
def Behind (i k j m : Nat) : Prop := j < i ∨ (j = i ∧ m < k)
theorem keysIn_spec {l : List Bat} {i : Nat} {b : Bat} (hb : l[i]? = some b) (s : ByteArray)
  (h0 : match keysTo l i s with | none => ∀ j m, j < i → ¬ Hit l s j m | some p => Hit l s p.1 p.2 ∧ p.1 < i ∧ ∀ j m, j < i → Behind j m p.1 p.2 → ¬ Hit l s j m) : ∀ k, k ≤ b.recs.length →
  match keysIn i b.recs (keysTo l i) k s with
  | none => (∀ j m, j < i → ¬ Hit l s j m) ∧ ∀ m, m < k → ¬ Hit l s i m
  | some p => Hit l s p.1 p.2 ∧ (p.1 < i ∨ (p.1 = i ∧ p.2 < k)) ∧ (∀ j m, j < i → Behind j m p.1 p.2 → ¬ Hit l s j m) ∧ ∀ m, m < k → Behind i m p.1 p.2 → ¬ Hit l s i m
 | 0, _ => by
  show match keysTo l i s with | none => _ | some p => _
  cases h : keysTo l i s with
  | none => rw [h] at h0; exact ⟨h0, fun m hm => by omega⟩
  | some p => rw [h] at h0; exact ⟨h0.1, .inl h0.2.1, h0.2.2, fun m hm => by omega⟩
 | k + 1, hk => by
  have ih := keysIn_spec hb s h0 k (by omega)
  obtain ⟨r, hr⟩ := get_of_lt (show k < b.recs.length by omega)
  have hit : Hit l s i k ↔ (r.bare = false ∧ r.key = s) := by
   constructor
   ·rintro ⟨b', r', h1, h2, h3, h4⟩
    rw [hb] at h1; injection h1 with h1; subst h1
    rw [hr] at h2; injection h2 with h2; subst h2
    exact ⟨h3, h4⟩
   ·rintro ⟨h3, h4⟩; exact ⟨b, r, hb, hr, h3, h4⟩
  by_cases hyes : r.bare = false ∧ r.key = s
  ·rw [keysIn_key hr hyes.1]
   simp only [hyes.2, if_true]
   refine ⟨hit.2 hyes, by simp, fun j m hj hB => ?_, fun m hm hB => ?_⟩
   ·unfold Behind at hB; omega
   ·unfold Behind at hB; omega
  ·have hsame : keysIn i b.recs (keysTo l i) (k + 1) s = keysIn i b.recs (keysTo l i) k s := by
    cases hbare : r.bare with
    | true => rw [keysIn_bare hr hbare]
    | false =>
     rw [keysIn_key hr hbare]
     simp only
     rw [if_neg fun e => hyes ⟨hbare, e.symm⟩]
   rw [hsame]
   have hno : ¬ Hit l s i k := fun h => hyes (hit.1 h)
   cases h : keysIn i b.recs (keysTo l i) k s with
   | none =>
    rw [h] at ih
    refine ⟨ih.1, fun m hm => ?_⟩
    by_cases e : m = k
    ·subst e; exact hno
    ·exact ih.2 m (by omega)
   | some p =>
    rw [h] at ih
    refine ⟨ih.1, by omega, ih.2.2.1, fun m hm hB => ?_⟩
    by_cases e : m = k
    ·subst e; exact hno
    ·exact ih.2.2.2 m (by omega) hB
theorem keysTo_spec (l : List Bat) (s : ByteArray) : ∀ n, match keysTo l n s with | none => ∀ j m, j < n → ¬ Hit l s j m | some p => Hit l s p.1 p.2 ∧ p.1 < n ∧ ∀ j m, j < n → Behind j m p.1 p.2 → ¬ Hit l s j m
 | 0 => fun j m h => by omega
 | n + 1 => by
  have ih := keysTo_spec l s n
  cases hb : l[n]? with
  | none =>
   have e : keysTo l (n + 1) = keysTo l n := by simp [keysTo, hb]
   rw [e]
   have hno : ∀ m, ¬ Hit l s n m := fun m ⟨b, r, h1, _⟩ => by rw [hb] at h1; cases h1
   cases h : keysTo l n s with
   | none =>
    rw [h] at ih
    intro j m hj
    by_cases e : j = n
    ·subst e; exact hno m
    ·exact ih j m (by omega)
   | some p =>
    rw [h] at ih
    refine ⟨ih.1, by omega, fun j m hj hB => ?_⟩
    by_cases e : j = n
    ·subst e; exact hno m
    ·exact ih.2.2 j m (by omega) hB
  | some b =>
   rw [keysTo_next hb]
   have h2 := keysIn_spec hb s ih b.recs.length (Nat.le_refl _)
   have hend : ∀ m, b.recs.length ≤ m → ¬ Hit l s n m := fun m hm ⟨b', r, h1, h3, _⟩ => by
    rw [hb] at h1; injection h1 with h1; subst h1
    have := (List.getElem?_eq_some_iff.1 h3).1; omega
   cases h : keysIn n b.recs (keysTo l n) b.recs.length s with
   | none =>
    rw [h] at h2
    intro j m hj
    by_cases e : j = n
    ·subst e
     rcases Nat.lt_or_ge m b.recs.length with hm | hm
     ·exact h2.2 m hm
     ·exact hend m hm
    ·exact h2.1 j m (by omega)
   | some p =>
    rw [h] at h2
    refine ⟨h2.1, by omega, fun j m hj hB => ?_⟩
    by_cases e : j = n
    ·subst e
     rcases Nat.lt_or_ge m b.recs.length with hm | hm
     ·exact h2.2.2.2 m hm hB
     ·exact hend m hm
    ·exact h2.2.2.1 j m (by omega) hB
def posOf (l : List Bat) (i k : Nat) : Int := match l[i]? with | some b => (match b.recs[k]? with | some r => b.base + r.at' | none => 0) | none => 0
/-- Where the last record of a key stands. -/
def latOf (l : List Bat) (n : Nat) (s : ByteArray) : Int × Bool := match keysTo l n s with | some p => (posOf l p.1 p.2, true) | none => (0, false)
def LatPost (w : World) (p : Int × Bool) (e : Ending) (w' : World) : Prop := e = .returned (.tuple #[.int .i64 p.1, .bool p.2]) ∧ Fr (fun _ => False) w w'
set_option maxRecDepth 100000 in
set_option maxHeartbeats 8000000 in
theorem klatest_walk (K : Nat → Prop) (l : List Bat) (s : ByteArray) (v : Value) (w : World) (h : BatsR K w v l) (hg : GoodL l) (hs : s.size ≤ maxLen) :
  Calls Tryz.prog 35 #[v, .string s] w (LatPost w (latOf l l.length s)) := by
 have hh := h
 obtain ⟨oa, cap, rfl, hcl⟩ := hh
 have H := Lib.hid hcl
 have HB := Lib.hid h
 have G := Lib.hid hg
 have hl8 := hg.len
 clear h hg hcl
 have hsp := keysTo_spec l s l.length
 obtain ⟨p0, hp0⟩ : ∃ p0, p0 = latOf l l.length s := ⟨_, rfl⟩
 rw [← hp0]
 unfold latOf at hp0
 obtain ⟨ok, hok⟩ : ∃ ok, ok = keysTo l l.length s := ⟨_, rfl⟩
 rw [← hok] at hp0 hsp
 have HOK := Lib.hid hok
 have HSP := Lib.hid hsp
 have HP0 := Lib.hid hp0
 clear hok hsp hp0
 go_enter Tryz.func35, Tryz.ntmps35
 go_wp2_with fail
 refine (lasts_walk K l _ _ HB.out G.out).mono ?_
 rintro e w1 ⟨kb, ob, rfl, ⟨nk, hkm⟩, -, hkb, hob, hf1⟩
 have look := hkm.look_ok s hs
 rw [← HOK.out] at look
 have hsp := HSP.out
 have hp0 := HP0.out
 have F1 := Lib.hid hf1
 clear hkm hf1 HSP HP0
 cases ok with
 | none =>
  simp only [Option.isSome_none] at look
  dsimp only at hp0
  subst hp0
  clear hsp
  go_wp2_with fail
  go_ret2
  exact ⟨rfl, F1.out.tr (by repeat' (refine Fr.alloc ?_ _); exact Fr.same _)⟩
 | some p =>
  obtain ⟨p1, p2⟩ := p
  obtain ⟨⟨b, r, hb, hr, -, -⟩, -, -⟩ := hsp
  simp only [Option.isSome_some, spotVal] at look
  dsimp only [posOf] at hp0 hb hr
  rw [hb] at hp0
  dsimp only at hp0
  rw [hr] at hp0
  dsimp only at hp0
  subst hp0
  have hlt := (List.getElem?_eq_some_iff.1 hb).1
  have hlt2 := (List.getElem?_eq_some_iff.1 hr).1
  have HG := Lib.hid (G.out.bats b (List.mem_of_getElem? hb))
  have hlen50 := HG.out.len
  obtain ⟨hb0, hb1⟩ := HG.out.base
  obtain ⟨-, -, ha0, ha1⟩ := HG.out.recs r (List.mem_of_getElem? hr)
  obtain ⟨a, rv, rfl, -, hc, hrr⟩ := H.out p1 b hb
  obtain ⟨ra, rcap, rfl, hrr⟩ := hrr
  obtain ⟨a2, hv, rfl, -, hcy, -⟩ := hrr p2 r hr
  have hf2 := F1.out.alloc (.cells #[.int .i64 p1, .int .i64 p2] 125)
  have hf3 := hf2.alloc (.cells (batCells b (.slice (some a2) b.recs.length rcap)).toArray 36)
  obtain ⟨c0, c1, c2, c3, c4, c5⟩ := hc.to (hf2.block _ hc.lt fun h => h)
  have y0 := hf3.cel hcy.c0
  have d0 : ((w1.alloc (.cells #[.int .i64 p1, .int .i64 p2] 125)).alloc (.cells (batCells b (.slice (some a2) b.recs.length rcap)).toArray 36)).cell? ⟨w1.heap.size + 1, 0, none⟩ = some (.int .i64 b.base) := by simp [batCells]
  have d5 : ((w1.alloc (.cells #[.int .i64 p1, .int .i64 p2] 125)).alloc (.cells (batCells b (.slice (some a2) b.recs.length rcap)).toArray 36)).cell? ⟨w1.heap.size + 1, 5, none⟩ = some (.slice (some a2) b.recs.length rcap) := by simp [batCells]
  have d7 : ((w1.alloc (.cells #[.int .i64 p1, .int .i64 p2] 125)).alloc (.cells (batCells b (.slice (some a2) b.recs.length rcap)).toArray 36)).cell? ⟨w1.heap.size, 1, none⟩ = some (.int .i64 p2) :=
   ((Fr.same _).alloc _).cel (cell_alloc_new w1 #[.int .i64 p1, .int .i64 p2] 125 1)
  have F3 := Lib.hid hf3
  unfold batCells at F3 y0 d0 d5 d7
  clear hb hr hc hrr hcy hf2 hf3
  go_wp2_with fail
  clear c0 c1 c2 c3 c4 c5
  go_quiet (fail)
  have F4 := Lib.hid (F3.out.drewN nq)
  clear y0 d0 d5 d7
  go_wp2_with fail
  go_ret2
  exact ⟨rfl, F4.out⟩
end Go.Proofs.YtdlnafhhkpklmaaGreatDoor
/- The document's Latest, later, last: the walks. -/
namespace Go.Proofs.YtdlnafhhkpklmaaGreatDoor
open Go.RowKit Go.Fm Go.BigFrame
set_option linter.unusedVariables false
set_option linter.unusedSimpArgs false
end Go.Proofs.YtdlnafhhkpklmaaGreatDoor
