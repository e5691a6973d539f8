/- PlogSafe: laws and the walk. -/
import Derived.Test.YtdlnafhhkpklmaaGreatDoorY39
import Derived.Test.YtdlnafhhkpklmaaGreatDoorY50
import Derived.Test.YtdlnafhhkpklmaaGreatDoorY41
namespace Go.Proofs.YtdlnafhhkpklmaaGreatDoor
open Go.RowKit Go.Fm Go.BigFrame Go.Shelf Go.Maps
set_option linter.unusedVariables false
set_option linter.unusedSimpArgs false
set_option maxRecDepth 100000
section
variable {B : Nat} {w w' w1 w2 : World} {lb db mb : Nat} {p : ByteArray} {lim ev : Nat} {beg at' : Int} {es : List PE} {own : Bool} {L L' : List Row} {S S' : Nat → Prop} {room used fuse : Int} {F F' : ByteArray → ByteArray × Nat} {n : Nat}
theorem LogD.refuse {fuse2 : Int} (h : LogD B w lb db mb p lim ev beg es own L S room used fuse F n) (hf : Fr (DkS db mb L) w w') (hd : Dk w' db mb room used fuse2 L F) (hw : (Lit.int .i64 fuse2).wf = true) : LogD B w' lb db mb p lim ev beg es own L S room used fuse2 F n :=
 ⟨h.lg.fr hf fun i hi => h.lg.ap hi, hd, ⟨h.ok.u0, h.ok.u1, hw, h.ok.fs⟩, h.us, h.ur, h.rm, h.fl, h.dl, h.b1, h.nL, h.nE, h.nB, h.n1, h.be⟩
theorem trimN_zero {ss : List Seg} (hc : ∀ s ∈ ss, Chn s.base s.l) (hf : ∀ s ∈ ss.dropLast, s.l ≠ []) : trimN 0 ss = 0 := by
 match ss with
 | [] => rfl
 | [_] => rfl
 | a :: b :: r =>
  rw [trimN, if_neg]
  have h1 := (hc a List.mem_cons_self).lt_end (hf a (by simp))
  have h2 : a.end' = endOf a.base a.l := rfl
  omega
theorem ssEnd_ge0 {ss : List Seg} (hc : ∀ s ∈ ss, Chn s.base s.l) : 0 ≤ ssEnd 0 ss := by
 unfold ssEnd
 cases e : ss.getLast? with
 | none => exact Int.le_refl _
 | some s =>
  have h1 := (hc s (List.mem_of_getLast? e)).end_ge
  have h2 : s.end' = endOf s.base s.l := rfl
  show 0 ≤ s.end'
  omega
end
section
open Go.ChangeShapes Go.WideShapes Go.ChangeAt Go.Joins Go.Deep
variable {H : Type} {enc : TypeId × Value → H} {W : World} {spare : Nat → Bool} {held : Bool}
end
section
variable {B : Nat} {w w' w1 w2 : World} {lb db mb : Nat} {p : ByteArray} {lim ev : Nat} {beg at' : Int} {es : List PE} {own : Bool} {L L' : List Row} {S S' : Nat → Prop} {room used fuse : Int} {F F' : ByteArray → ByteArray × Nat} {n : Nat}
end
end Go.Proofs.YtdlnafhhkpklmaaGreatDoor
/- Laws of a log that cleaning has touched. -/
namespace Go.Proofs.YtdlnafhhkpklmaaGreatDoor
open Go.RowKit Go.Fm Go.BigFrame Go.Shelf Go.Maps
set_option linter.unusedVariables false
set_option linter.unusedSimpArgs false
set_option maxRecDepth 100000
section
variable {P : Bat → Prop} {ss : List Seg} {lf : List (List Bat)} {before : Int} {q : Nat} {s : Seg} {l m : List Bat}
theorem CleanOf.same (P : Bat → Prop) : ∀ l : List Bat, CleanOf P l l
 | [] => .nil
 | b :: l => CleanOf.keep (rs := b.recs) (List.Sublist.refl _) (fun _ => rfl) (CleanOf.same P l)
theorem zip_clean : ∀ (A : List Seg) (M : List (List Bat)), (∀ (i : Nat) (s : Seg) (l : List Bat), A[i]? = some s → M[i]? = some l → CleanOf P s.l (updS s l).l) → A.length = M.length → CleanOf P (catL A) (catL (List.zipWith updS A M))
 | [], [], _, _ => .nil
 | [], _ :: _, _, h => by cases h
 | _ :: _, [], _, h => by cases h
 | s :: A, l :: M, h, hn => by
  have h0 := h 0 s l rfl rfl
  have ih := zip_clean A M (fun i s' l' h1 h2 => h (i + 1) s' l' h1 h2) (by simpa using hn)
  rw [List.zipWith_cons_cons]
  unfold catL at ih ⊢
  rw [List.flatMap_cons, List.flatMap_cons]
  exact h0.app ih
theorem cat_append (a b : List Seg) : catL (a ++ b) = catL a ++ catL b := by unfold catL; rw [List.flatMap_append]
theorem Rows.updS (R : Rows ss) {i : Nat} {s : Seg} {l : List Bat} (hs : ss[i]? = some s) (hl : (leftsL (ss.map (·.l)) (catL ss) before)[i]? = some l) :
  l = (cleanedL (catL ss) (uptoF ((ss.map (·.l)).take ((ss.map (·.l)).length - 1))) before).filter (inR s.l) ∧ CleanOf (fun b => isHi (uptoF ((ss.map (·.l)).take ((ss.map (·.l)).length - 1))) b = true) s.l (updS s l).l := by
 obtain ⟨-, x, hx, rfl⟩ := lefts_get hl
 rw [List.getElem?_map, hs] at hx
 injection hx with hx
 subst hx
 refine ⟨rfl, ?_⟩
 unfold Go.Proofs.YtdlnafhhkpklmaaGreatDoor.updS
 split
 ·exact R.seg _ before hs
 ·exact CleanOf.same _ _
theorem Rows.upd (R : Rows ss) (hlf : lf = leftsL (ss.map (·.l)) (catL ss) before) (hq : q ≤ lf.length) : CleanOf (fun b => isHi (uptoF ((ss.map (·.l)).take ((ss.map (·.l)).length - 1))) b = true) (catL ss) (catL (updN ss lf q)) := by
 have hlen := lefts_len (ss.map (·.l)) (catL ss) before
 rw [List.length_map, ← hlf] at hlen
 have h1 : catL ss = catL (ss.take q) ++ catL (ss.drop q) := by rw [← cat_append, List.take_append_drop]
 unfold updN
 rw [cat_append]
 conv => arg 2; rw [h1]
 refine CleanOf.app ?_ (CleanOf.same _ _)
 unfold updZ
 refine zip_clean _ _ (fun i s l hs hl => ?_) (by rw [List.length_take, List.length_take]; omega)
 rw [List.getElem?_take] at hs hl
 split at hs
 ·rename_i hi
  rw [if_pos hi] at hl
  rw [hlf] at hl
  exact (R.updS hs hl).2
 ·cases hs
theorem updN_get (hq : q ≤ lf.length) (hqs : q ≤ ss.length) {i : Nat} (hs : ss[i]? = some s) : (∃ l, i < q ∧ lf[i]? = some l ∧ (updN ss lf q)[i]? = some (updS s l)) ∨ (updN ss lf q)[i]? = some s := by
 have hz := updZ_len (ss := ss) (lf := lf) (j := q) hqs hq
 unfold updN
 rcases Nat.lt_or_ge i q with h | h
 ·left
  obtain ⟨l, hl⟩ := get_of_lt (show i < lf.length by omega)
  refine ⟨l, h, hl, ?_⟩
  rw [List.getElem?_append_left (by omega)]
  unfold updZ
  rw [List.getElem?_zipWith, List.getElem?_take, if_pos h, List.getElem?_take, if_pos h, hs, hl]
 ·right
  rw [List.getElem?_append_right (by omega), hz, List.getElem?_drop]
  rw [show q + (i - q) = i by omega]
  exact hs
theorem last_left {l : List Bat} {upto before : Int} {i k : Nat} {b : Bat} {r : Rec} (ha : At l i k b r) (hk : keysTo l l.length r.key = some (i, k)) (hg : r.gone = false) :
  ∃ b', b' ∈ cleanedL l upto before ∧ r ∈ b'.recs ∧ b'.base = b.base := by
 have hgo : goesB (keysTo l l.length) before i k r = false := by simp [goesB, hk, hg]
 have hmem : r ∈ keptOf (keysTo l l.length) upto before i b := kept_has ha.2 (by rw [hgo]; simp) _ (List.getElem?_eq_some_iff.1 ha.2).1
 have hne : (keptOf (keysTo l l.length) upto before i b).isEmpty = false := by
  cases h : keptOf (keysTo l l.length) upto before i b with
  | nil => rw [h] at hmem; cases hmem
  | cons => rfl
 exact ⟨_, cleanTo_has (f := keysTo l l.length) (g := ownersTo l l.length) (upto := upto) (before := before) ha.1 (by rw [hne]; simp) l.length (List.getElem?_eq_some_iff.1 ha.1).1, hmem, rfl⟩
theorem inR_seg {b b' : Bat} (hr : RiseB l) (hs : ∀ b ∈ l, 1 ≤ b.span) (hb : b ∈ l) (he : b'.base = b.base) : inR l b' = true := by
 cases l with
 | nil => cases hb
 | cons a l =>
  rw [inR_iff, he]
  have h1 := endL_ge hr hs hb
  have h2 := hs b hb
  refine ⟨?_, by omega⟩
  rcases List.mem_cons.1 hb with rfl | h
  ·exact Int.le_refl _
  ·have h3 := (List.pairwise_cons.1 hr).1 b h
   have h4 := hs a List.mem_cons_self
   omega
/-- The last record of a key, if it is not Gone, is left. -/
theorem Rows.kept (R : Rows ss) (hlf : lf = leftsL (ss.map (·.l)) (catL ss) before) (hq : q ≤ lf.length) {i k : Nat} {b : Bat} {r : Rec} (ha : At (catL ss) i k b r) (hk : keysTo (catL ss) (catL ss).length r.key = some (i, k)) (hg : r.gone = false) :
  ∃ j m b', At (catL (updN ss lf q)) j m b' r ∧ b'.base = b.base := by
 have hlen := lefts_len (ss.map (·.l)) (catL ss) before
 rw [List.length_map, ← hlf] at hlen
 have hb := List.mem_of_getElem? ha.1
 unfold catL at hb
 obtain ⟨s, hs, hbs⟩ := List.mem_flatMap.1 hb
 obtain ⟨i0, hi0⟩ := List.getElem?_of_mem hs
 have key : ∃ b', b' ∈ catL (updN ss lf q) ∧ r ∈ b'.recs ∧ b'.base = b.base := by
  rcases updN_get (lf := lf) (q := q) hq (by omega) hi0 with ⟨l, hl, hli, hu⟩ | hu
  ·by_cases hc : 0 < l.length ∧ cntL l < cntL s.l
   ·have e1 : Go.Proofs.YtdlnafhhkpklmaaGreatDoor.updS s l = ⟨s.base, 20, l⟩ := by
     unfold Go.Proofs.YtdlnafhhkpklmaaGreatDoor.updS
     rw [if_pos hc]
    rw [e1] at hu
    rw [hlf] at hli
    obtain ⟨e2, -⟩ := R.updS hi0 hli
    obtain ⟨b', h1, h2, h3⟩ := last_left (upto := uptoF ((ss.map (·.l)).take ((ss.map (·.l)).length - 1))) (before := before) ha hk hg
    refine ⟨b', mem_cat (List.mem_of_getElem? hu) ?_, h2, h3⟩
    show b' ∈ l
    rw [e2]
    exact List.mem_filter.2 ⟨h1, inR_seg (R.ch s hs).pair.1 (fun b hb => (R.ok b (mem_cat hs hb)).span0) hbs h3⟩
   ·have e1 : Go.Proofs.YtdlnafhhkpklmaaGreatDoor.updS s l = s := by
     unfold Go.Proofs.YtdlnafhhkpklmaaGreatDoor.updS
     rw [if_neg hc]
    rw [e1] at hu
    exact ⟨b, mem_cat (List.mem_of_getElem? hu) hbs, List.mem_of_getElem? ha.2, rfl⟩
  ·exact ⟨b, mem_cat (List.mem_of_getElem? hu) hbs, List.mem_of_getElem? ha.2, rfl⟩
 obtain ⟨b', h1, h2, h3⟩ := key
 obtain ⟨j, hj⟩ := List.getElem?_of_mem h1
 obtain ⟨m, hm⟩ := List.getElem?_of_mem h2
 exact ⟨j, m, b', ⟨hj, hm⟩, h3⟩
theorem upd_ne : ∀ (A : List Seg) (M : List (List Bat)), (∀ s ∈ A, s.l ≠ []) → ∀ x ∈ List.zipWith updS A M, x.l ≠ []
 | [], _, _, x, hx => by simp at hx
 | _ :: _, [], _, x, hx => by simp at hx
 | s :: A, l :: M, h, x, hx => by
  rw [List.zipWith_cons_cons] at hx
  rcases List.mem_cons.1 hx with rfl | hx
  ·unfold updS
   split
   ·rename_i hc
    exact List.length_pos_iff.1 hc.1
   ·exact h s List.mem_cons_self
  ·exact upd_ne A M (fun s hs => h s (List.mem_cons_of_mem _ hs)) x hx
theorem updN_ne (h : ∀ s ∈ ss, s.l ≠ []) : ∀ x ∈ updN ss lf q, x.l ≠ [] := fun x hx => by
 unfold updN at hx
 rcases List.mem_append.1 hx with hx | hx
 ·exact upd_ne _ _ (fun s hs => h s (List.mem_of_mem_take hs)) x hx
 ·exact h x (List.mem_of_mem_drop hx)
theorem updN_last (hss : lf = [] ∨ ss.length = lf.length + 1) (hq : q ≤ lf.length) : (updN ss lf q).getLast? = ss.getLast? := by
 rcases hss with rfl | hss
 ·obtain rfl : q = 0 := by simpa using hq
  unfold updN updZ
  simp
 ·unfold updN
  have h1 : (ss.drop q).getLast? = ss.getLast? := by rw [List.getLast?_drop, if_neg (by omega)]
  rw [List.getLast?_append, h1]
  cases e : ss.getLast? with
  | none =>
   rw [List.getLast?_eq_none_iff] at e
   rw [e] at hss
   cases hss
  | some x => rfl
theorem tag_end (ev : Nat) (ss : List Seg) : ssEnd 0 (ss.map (tagS ev)) = ssEnd 0 ss := by
 unfold ssEnd
 rw [List.getLast?_map]
 cases ss.getLast? <;> rfl
theorem lg_end (es : List PE) : lgEnd 0 es = ssEnd 0 (segsOf es) := by
 unfold lgEnd ssEnd segsOf
 rw [List.getLast?_map]
 cases es.getLast? <;> rfl
theorem ssEnd_last {ts : List Seg} (h : ts.getLast? = ss.getLast?) : ssEnd 0 ts = ssEnd 0 ss := by
 unfold ssEnd
 rw [h]
/-- A key that no record has is in nothing that cleaning leaves. -/
theorem CleanOf.keys (h : CleanOf P l m) {key : ByteArray} (hk : keysTo l l.length key = none) : keysTo m m.length key = none := by
 have h1 := keysTo_spec l key l.length
 have h2 := keysTo_spec m key m.length
 rw [hk] at h1
 cases e : keysTo m m.length key with
 | none => rfl
 | some p =>
  rw [e] at h2
  obtain ⟨⟨c, r, hc, hr, hb, hkk⟩, -, -⟩ := h2
  obtain ⟨b, hbl, rs, hsub, rfl⟩ := h.mem c (List.mem_of_getElem? hc)
  obtain ⟨j, hj⟩ := List.getElem?_of_mem hbl
  obtain ⟨k, hk2⟩ := List.getElem?_of_mem (hsub.subset (List.mem_of_getElem? hr))
  exact absurd ⟨b, r, hj, hk2, hb, hkk⟩ (h1 j k (List.getElem?_eq_some_iff.1 hj).1)
theorem find_one {l : List Bat} (h : SortedL l) {i k : Nat} {b : Bat} {r s : Rec} {x : Int} {c : Bool} (ha : At l i k b r) (hx : b.base + r.at' = x)
  (h1 : c = true → ∃ i k b, At l i k b s ∧ b.base + s.at' = x) (h2 : c = false → ∀ i k b r, At l i k b r → b.base + r.at' ≠ x) : c = true ∧ s = r := by
 cases c with
 | false => exact absurd hx (h2 rfl i k b r ha)
 | true =>
  obtain ⟨j, m, b', hs, hx'⟩ := h1 rfl
  exact ⟨rfl, (pos_inj h hs ha (by omega)).2.2.2⟩
theorem rise_sorted {l : List Bat} (h : RiseB l) (hok : ∀ b ∈ l, BatOK b) : SortedL l := ⟨h, fun b hb => ok_in (hok b hb)⟩
end
end Go.Proofs.YtdlnafhhkpklmaaGreatDoor
/- CleanSteps: the walk. -/
namespace Go.Proofs.YtdlnafhhkpklmaaGreatDoor
open Go.RowKit Go.Fm Go.BigFrame Go.Shelf Go.Maps
set_option linter.unusedVariables false
set_option linter.unusedSimpArgs false
set_option maxRecDepth 100000
section
variable {B : Nat} {w w' w1 w2 W wr : World} {lb db mb cb lim : Nat} {p : ByteArray} {ev : Nat} {beg : Int} {es : List PE} {own : Bool} {L L' L0 : List Row} {S S' S0 : Nat → Prop} {room used fuse : Int} {F F' : ByteArray → ByteArray × Nat} {n j : Nat} {ss : List Seg} {lf : List (List Bat)} {s : Seg} {l : List Bat}
structure LogAt (w : World) (pb : Nat) (v : Value) (lm be fu : Int) (kv : Value) : Prop where
 a0 : w.cell? ⟨pb, 0, none⟩ = some v
 a1 : w.cell? ⟨pb, 1, none⟩ = some (.int .i64 lm)
 a2 : w.cell? ⟨pb, 2, none⟩ = some (.int .i64 be)
 a3 : w.cell? ⟨pb, 3, none⟩ = some (.int .i64 fu)
 a4 : w.cell? ⟨pb, 4, none⟩ = some kv
theorem LogAt.old {pb : Nat} {v kv : Value} {lm be fu : Int} (h : LogAt w pb v lm be fu kv) (hf : Fr (fun _ => False) w w') : LogAt w' pb v lm be fu kv :=
 ⟨hf.cel h.a0, hf.cel h.a1, hf.cel h.a2, hf.cel h.a3, hf.cel h.a4⟩
theorem FillD.rows {k : Nat} (h : FillD B w lb db mb lim k es L S used F) : Rows (segsOf es) :=
 ⟨cat_rise h.d.fl.rise fun s hs => h.d.chn hs, h.d.cat_ok, fun s hs => h.d.chn hs, h.ne⟩
theorem FillD.good {k : Nat} (h : FillD B w lb db mb lim k es L S used F) (hk : k ≤ 8) : GoodL (catE es) :=
 ⟨Nat.le_trans h.len hk, fun b hb => ok_goodB (h.d.cat_ok b hb)⟩
theorem sum_small : ∀ {l : List Bat}, (∀ b ∈ l, BatOK b ∧ SmallB b) → sumB l ≤ 16068 * l.length
 | [], _ => Nat.le_refl _
 | b :: l, h => by
  have ih := sum_small (l := l) fun x hx => h x (List.mem_cons_of_mem _ hx)
  have h1 := h b List.mem_cons_self
  have h2 := bsz_small h1.1 h1.2
  rw [sumB_cons, List.length_cons]
  omega
theorem Rows.want {es es' : List PE} {lf : List (List Bat)} (R : Rows (segsOf es)) (be : Int) (hlf : lf = leftsL (listsOf es) (catE es) be) (hlen : lf.length = es.length - 1) (hsg : segsOf es' = updN (segsOf es) lf lf.length) {k : Nat} {x : List Bat} (hx : (listsOf es)[k]? = some x) : (listsOf es')[k]? = some (insideL (cleanedL (catE es) (uptoF ((listsOf es).take lf.length)) be) x) := by
 have hsl : (segsOf es).length = es.length := by unfold segsOf; rw [List.length_map]
 rw [lists_segs es] at hx hlf ⊢
 rw [List.getElem?_map, Option.map_eq_some_iff] at hx
 obtain ⟨s, hs, rfl⟩ := hx
 obtain ⟨t, ht, -, hl⟩ := R.final be hs
 have ht' : (updN (segsOf es) lf lf.length)[k]? = some t := by
  rw [hlen, ← hsl, hlf]
  exact ht
 rw [lists_segs es', hsg, List.getElem?_map, ht', hlen, ← hsl]
 exact congrArg some hl
end
end Go.Proofs.YtdlnafhhkpklmaaGreatDoor
