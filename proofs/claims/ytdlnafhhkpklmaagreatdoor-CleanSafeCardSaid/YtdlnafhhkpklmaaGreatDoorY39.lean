/- How many bytes a small batch has: plain laws. -/
import Derived.Test.YtdlnafhhkpklmaaGreatDoorY31
import Derived.Test.YtdlnafhhkpklmaaGreatDoorY26
import Derived.Test.YtdlnafhhkpklmaaGreatDoorY25
import Derived.Test.YtdlnafhhkpklmaaGreatDoorChecked
import Derived.WalkKit
import Derived.WalkSpells
import Derived.WalkLawsBesides
import Derived.BigQuiet
import Derived.Deep.QuietTactic
import Derived.Lib.Hide
import Derived.Test.YtdlnafhhkpklmaaGreatDoorY38
namespace Go.Proofs.YtdlnafhhkpklmaaGreatDoor
open Go.RowKit Go.Fm Go.BigFrame Go.Shelf Go.Maps
set_option linter.unusedVariables false
set_option linter.unusedSimpArgs false
theorem encTo_small {r : Rec} (h : RecOK r) : ∀ k, k ≤ r.hs.length → (encTo r k).size ≤ 60 + r.key.size + r.val.size + hdrsW (r.hs.take k) + 20 * k
 | 0, _ => by
  have wa : (Lit.int .i64 r.at').wf = true := by have := h.at0; have := h.at1; simp [Lit.wf, IntKind.min, IntKind.max, IntKind.signed, IntKind.bits]; omega
  have wt : (Lit.int .i64 r.tm).wf = true := by have := h.tm0; have := h.tm1; simp [Lit.wf, IntKind.min, IntKind.max, IntKind.signed, IntKind.bits]; omega
  have wf : (Lit.int .i64 (flagsOf r)).wf = true := by unfold flagsOf; cases r.bare <;> cases r.gone <;> decide
  have hk := h.key
  have hv := h.val
  have hl := h.hs
  have sa := putS_size wa
  have st := putS_size wt
  have sf := putS_size wf
  have sl := putS_size (len_wf (show r.hs.length ≤ 1000000000 by omega))
  have sk := textS_size (show r.key.size ≤ 1000000000 by omega)
  have sv := textS_size (show r.val.size ≤ 1000000000 by omega)
  show (encHead r).size ≤ _
  unfold encHead
  rw [ByteArray.size_append, ByteArray.size_append, ByteArray.size_append, ByteArray.size_append, ByteArray.size_append]
  omega
 | k + 1, hk => by
  obtain ⟨x, hx⟩ := get_of_lt (show k < r.hs.length by omega)
  have ih := encTo_small h k (by omega)
  obtain ⟨h1, h2, h3⟩ := h.hdrs x (List.mem_of_getElem? hx)
  have sk := textS_size (show x.key.size ≤ 1000000000 by omega)
  have sv := textS_size (show x.val.size ≤ 1000000000 by omega)
  rw [take_snoc' hx, hdrsW_snoc]
  simp only [encTo, hx]
  rw [ByteArray.size_append, ByteArray.size_append]
  unfold hdrW
  omega
theorem encS_small {r : Rec} (h : RecOK r) : (encS r).size ≤ recW r + 260 := by
 have h1 := encTo_small h r.hs.length (Nat.le_refl _)
 have h2 := h.hs
 rw [List.take_length] at h1
 unfold encS recW
 omega
theorem bodyTo_small {b : Bat} (h : BatOK b) : ∀ k, k ≤ b.recs.length → (bodyTo b k).size ≤ 60 + recsW (b.recs.take k) + 260 * k
 | 0, _ => by
  have NU := nums_of h.base0 h.base1 h.span0 h.span1 h.who h.len
  have wl : (Lit.int .i64 (b.recs.length : Int)).wf = true := len_wf (by have := h.len; omega)
  have s1 := putS_size NU.base
  have s2 := putS_size NU.span
  have s3 := putS_size NU.prod
  have s4 := putS_size NU.epoch
  have s5 := putS_size NU.seq
  have s6 := putS_size wl
  show (bodyHead b).size ≤ _
  unfold bodyHead
  rw [ByteArray.size_append, ByteArray.size_append, ByteArray.size_append, ByteArray.size_append, ByteArray.size_append]
  omega
 | k + 1, hk => by
  obtain ⟨x, hx⟩ := get_of_lt (show k < b.recs.length by omega)
  have ih := bodyTo_small h k (by omega)
  have h1 := encS_small (h.recs k x hx).ok
  rw [take_snoc' hx, recsW_snoc]
  simp only [bodyTo, hx]
  rw [ByteArray.size_append]
  omega
/-- A small batch has at most 16068 bytes. -/
theorem bsz_small {b : Bat} (h : BatOK b) (hs : SmallB b) : bsz b ≤ 16068 := by
 have h1 := bodyTo_small h b.recs.length (Nat.le_refl _)
 have h2 := hs.weight
 have h3 := h.len
 rw [List.take_length] at h1
 unfold bsz
 rw [batS_size]
 unfold bodyS
 omega
theorem SmallB.recs_eq {b b' : Bat} (h : SmallB b) (e : b'.recs = b.recs) : SmallB b' := ⟨by rw [e]; exact h.len, by rw [e]; exact h.recs, by rw [e]; exact h.weight⟩
end Go.Proofs.YtdlnafhhkpklmaaGreatDoor
/- Same of records, of batches: the walks. -/
namespace Go.Proofs.YtdlnafhhkpklmaaGreatDoor
open Go.RowKit Go.Fm Go.BigFrame
set_option linter.unusedVariables false
set_option linter.unusedSimpArgs false
end Go.Proofs.YtdlnafhhkpklmaaGreatDoor
/- The document's copies of records and batches: the walks. -/
namespace Go.Proofs.YtdlnafhhkpklmaaGreatDoor
open Go.RowKit Go.Fm Go.BigFrame
set_option linter.unusedVariables false
set_option linter.unusedSimpArgs false
set_option maxRecDepth 100000
end Go.Proofs.YtdlnafhhkpklmaaGreatDoor
/- The example log: laws and the walk of live. -/
namespace Go.Proofs.YtdlnafhhkpklmaaGreatDoor
open Go.RowKit Go.Fm Go.BigFrame Go.Shelf Go.Maps
set_option linter.unusedVariables false
set_option linter.unusedSimpArgs false
set_option maxRecDepth 100000
section
def pS : ByteArray := ⟨#[112]⟩
end
section
variable {B : Nat} {w w' w1 w2 : World} {lb db mb : Nat} {p : ByteArray} {lim ev : Nat} {beg : Int} {es : List PE} {own : Bool} {L L' : List Row} {S S' : Nat → Prop} {room used fuse : Int} {F F' : ByteArray → ByteArray × Nat} {n : Nat}
theorem LogD.none (h : LogD B w lb db mb p lim ev beg es own L S room used fuse F n) (hL : ∀ i, DkS db mb L i → i = db ∨ i = mb) : L = [] := by
 cases L with
 | nil => rfl
 | cons r L =>
  have h1 := h.dk.ne_file (r := r) List.mem_cons_self
  rcases hL r.2 (.inr (.inr ⟨r, List.mem_cons_self, rfl⟩)) with h2 | h2
  ·exact absurd h2 h1.1
  ·exact absurd h2 h1.2
/-- A log that is opened on a disk without files. -/
def NewLog (B : Nat) (w : World) (db mb : Nat) (p : ByteArray) (lim ev : Nat) (room : Int) (e : Ending) (w' : World) : Prop :=
 ∃ (lb : Nat) (S' : Nat → Prop) (F' : ByteArray → ByteArray × Nat), e = .returned (.tuple #[.pointer (some ⟨lb, 0, none⟩), .int .i64 0]) ∧ LogD B w' lb db mb p lim ev 0 [] true [] S' room 0 (-1) F' 0 ∧ (∀ i, S' i → w.heap.size ≤ i) ∧ Fr (fun i => i = db ∨ i = mb) w w'
theorem popen_new (h : DkN w db mb room 0 [] F) (hrm : room ≤ 4194304) (hB1 : 1 ≤ B) (hdb : B ≤ db) (hmb : B ≤ mb) (p1 : 1 ≤ p.size) (p2 : p.size ≤ 20) (l1 : 50 ≤ lim) (l2 : lim ≤ 1000000) (e1 : 1 ≤ ev) (e2 : ev ≤ 1000000) (hst : StepsOK w) :
  Calls Tryz.prog 11 #[.pointer (some ⟨db, 0, none⟩), cfgV p lim ev] w (NewLog B w db mb p lim ev room) := by
 have hD : ∀ i, DkS db mb [] i → i = db ∨ i = mb := fun i hi => hi.imp id fun h => h.elim id fun ⟨r, hr, _⟩ => (by cases hr)
 refine (popen_walk (B := B) (ts := []) (beg := 0) (n := 0) ⟨h, hrm, ⟨fun nm h1 => (by cases h1), fun t ht => (by cases ht), fun t ht => (by cases ht), .nil, fun t ht => (by cases ht), fun t ht => (by cases ht), fun t ht => (by cases ht), fun t ht => (by cases ht)⟩, .inl ⟨rfl, rfl⟩, Int.le_refl _, by omega, Int.le_refl _, fun i hi => by
  rcases hD i hi with rfl | rfl <;> assumption, hB1, Nat.le_refl _, Nat.le_refl _, Nat.le_refl _, by omega, p1, p2, l1, l2, e1, e2, hst⟩).mono ?_
 rintro e w1 ⟨lb, j, es, own', L', S', used', F', rfl, hL, hsg, hj, how, hls, hot, hS, hDk, hf⟩
 obtain rfl : es = [] := by
  unfold segsOf at hsg
  simpa using hsg
 obtain rfl : j = 0 := hj
 obtain rfl := how rfl
 obtain rfl := hL.none fun i hi => hD i (hDk i hi)
 obtain rfl : used' = 0 := hL.us
 exact ⟨lb, S', F', rfl, hL, hS, hf.mono fun i hi => .inl (hD i hi)⟩
end
end Go.Proofs.YtdlnafhhkpklmaaGreatDoor
/- PlogRetains: the walk. -/
namespace Go.Proofs.YtdlnafhhkpklmaaGreatDoor
open Go.RowKit Go.Fm Go.BigFrame Go.Shelf Go.Maps
set_option linter.unusedVariables false
set_option linter.unusedSimpArgs false
set_option maxRecDepth 100000
section
variable {B : Nat} {w w' w1 w2 : World} {lb db mb : Nat} {p : ByteArray} {lim ev : Nat} {beg : Int} {es : List PE} {own : Bool} {L L' : List Row} {S S' : Nat → Prop} {room used fuse : Int} {F F' : ByteArray → ByteArray × Nat} {n : Nat}
/-- A new disk and a new log on it. -/
theorem dnew_n (room : Int) (w : World) (h1 : 1 ≤ room) (h2 : room ≤ 4194304) : Calls Tryz.prog 10 #[.int .i64 room] w fun e w' => ∃ db mb, e = .returned (.tuple #[.pointer (some ⟨db, 0, none⟩), .int .i64 0]) ∧ DkN w' db mb room 0 [] (fun _ => (ByteArray.empty, 0)) ∧ w.heap.size ≤ db ∧ w.heap.size ≤ mb ∧ Fr (fun _ => False) w w' := by
 refine (dnew_walk room (fun _ => (ByteArray.empty, 0)) w h1 h2).mono ?_
 rintro e w1 ⟨db, mb, rfl, hdk, hf1, hdb, hmb⟩
 exact ⟨db, mb, rfl, ⟨hdk, ⟨Int.le_refl _, by omega, by decide, fun r hr => (by cases hr)⟩, rfl, by omega⟩, hdb, hmb, hf1⟩
theorem LogD.cat_ok (h : LogD B w lb db mb p lim ev beg es own L S room used fuse F n) : ∀ b ∈ catE es, BatOK b := fun b hb => by
 unfold catE catL at hb
 obtain ⟨s, hs, hb⟩ := List.mem_flatMap.1 hb
 exact ((h.chn hs).ok b hb).1
end
end Go.Proofs.YtdlnafhhkpklmaaGreatDoor
/- What a log's files tell behind a crash; batches that rise: plain laws. -/
namespace Go.Proofs.YtdlnafhhkpklmaaGreatDoor
open Go.RowKit Go.Fm Go.BigFrame Go.Shelf Go.Maps
set_option linter.unusedVariables false
set_option linter.unusedSimpArgs false
set_option maxRecDepth 100000
section
variable {p : ByteArray} {beg at' : Int} {ss ss0 : List Seg} {s x : Seg} {L L' : List Row} {F F' : ByteArray → ByteArray × Nat} {n k ev : Nat}
def tagS (ev : Nat) (s : Seg) : Seg := ⟨s.base, ev, s.l⟩
theorem tag_cat (ev : Nat) (ss : List Seg) : catL (ss.map (tagS ev)) = catL ss := by
 unfold catL
 rw [List.flatMap_map]
 rfl
theorem cat_extract (l : List Bat) (k : Nat) : (catB l).extract 0 (sumB (l.take k)) = catB (l.take k) := by
 refine bytes_ext ?_
 rw [extract_list, List.drop_zero, catB_list, catB_list]
 have h : l.flatMap bl = (l.take k).flatMap bl ++ (l.drop k).flatMap bl := by rw [← List.flatMap_append, List.take_append_drop]
 rw [h]
 exact List.take_left' (flat_bl_len _)
theorem extract_two (t : ByteArray) {a b : Nat} (h : a ≤ b) : (t.extract 0 b).extract 0 a = t.extract 0 a := by
 refine bytes_ext ?_
 rw [extract_list, extract_list, extract_list, List.drop_zero, List.drop_zero, List.drop_zero, List.take_take]
 congr 1
 omega
structure Reopen (p : ByteArray) (beg : Int) (ss : List Seg) (ev : Nat) (L : List Row) (F F' : ByteArray → ByteArray × Nat) (ts : List Seg) : Prop where
 i : OpIn p ev ts L F'
 take : ∃ k, catL ts = (catL ss).take k
 safe : ∀ k, SafeN p ss L F k → k ≤ (catL ts).length
 same : LastSafe p ss L F → (∀ s ∈ ss, s.l ≠ []) → ts = ss.map (tagS ev)
 len : ts.length ≤ ss.length
 st : (getL L (startS p) = none ∧ beg = 0) ∨ ((getL L (startS p)).isSome = true ∧ F' (startS p) = (fix8 beg.toNat, 8))
theorem reopen (h : LgF p beg ss L F) (hch : ∀ s ∈ ss, Chn s.base s.l) (hsz : ∀ r ∈ L, (F r.1).1.size ≤ 4194304) (hlen : ∀ s ∈ ss, s.l.length ≤ 700) (hc : ∀ r ∈ L, ∃ n, (F r.1).2 ≤ n ∧ n ≤ (F r.1).1.size ∧ F' r.1 = ((F r.1).1.extract 0 n, n)) (ev : Nat) : ∃ ts, Reopen p beg ss ev L F F' ts := by
 have hcr : ∀ nm fb, getL L nm = some fb → ∃ n, (F nm).2 ≤ n ∧ n ≤ (F nm).1.size ∧ F' nm = ((F nm).1.extract 0 n, n) := fun nm fb hg => hc _ (getL_some hg)
 have hst : (getL L (startS p) = none ∧ beg = 0) ∨ ((getL L (startS p)).isSome = true ∧ F' (startS p) = (fix8 beg.toNat, 8)) := by
  rcases h.strt with h1 | ⟨h1, h2⟩
  ·exact .inl h1
  ·obtain ⟨fb, hg⟩ := Option.isSome_iff_exists.1 h1
   obtain ⟨n, h3, h4, h5⟩ := hcr _ fb hg
   rw [h2] at h3 h4 h5
   have h8 : (fix8 beg.toNat).size = 8 := fix8_size _
   dsimp only at h3 h4 h5
   obtain rfl : n = 8 := by omega
   have h9 : (fix8 beg.toNat).extract 0 8 = fix8 beg.toNat := by
    conv => lhs; arg 3; rw [← h8]
    exact ByteArray.extract_zero_size
   rw [h9] at h5
   exact .inr ⟨h1, h5⟩
 rcases List.eq_nil_or_concat ss with rfl | ⟨ss0, x, rfl⟩
 ·refine ⟨[], ⟨fun nm h1 h2 => ?_, fun t ht => (by cases ht), fun t ht => (by cases ht), .nil, fun t ht => (by cases ht), fun t ht => (by cases ht), fun t ht => (by cases ht), fun t ht => (by cases ht)⟩, ⟨0, rfl⟩, fun k hk => ?_, fun _ _ => rfl, Nat.le_refl _, hst⟩
  ·obtain ⟨s, hs, -⟩ := h.own nm h1 h2
   cases hs
  ·rcases hk with hk | ⟨s, j, e, -⟩
   ·exact hk
   ·cases e
 ·rw [List.concat_eq_append] at *
  have hm0 : ∀ s ∈ ss0, s ∈ ss0 ++ [x] := fun s hs => List.mem_append.2 (.inl hs)
  have hmx : x ∈ ss0 ++ [x] := List.mem_append.2 (.inr (by simp))
  have hr := List.pairwise_append.1 h.rise
  have hfull : ∀ s ∈ ss0, s.l ≠ [] := fun s hs => h.full s (by rw [List.dropLast_concat]; exact hs)
  have hsafe : ∀ s ∈ ss0, (getL L (nmS p s.base)).isSome = true ∧ F' (nmS p s.base) = (catB s.l, (catB s.l).size) ∧ sumB s.l ≤ 4194304 := fun s hs => by
   have h1 := h.has (hm0 s hs) (hfull s hs)
   obtain ⟨fb, hg⟩ := Option.isSome_iff_exists.1 h1
   have h2 := h.safe s (by rw [List.dropLast_concat]; exact hs)
   rw [curF_some hg] at h2
   obtain ⟨n, h3, h4, h5⟩ := hcr _ fb hg
   have h6 := hsz _ (getL_some hg)
   rw [h2] at h3 h4 h5
   dsimp only at h3 h4 h5 h6
   rw [h2] at h6
   obtain rfl : n = (catB s.l).size := by omega
   rw [ByteArray.extract_zero_size] at h5
   rw [catB_size] at h6
   exact ⟨h1, h5, h6⟩
  have h0 : ∀ t ∈ ss0.map (tagS ev), (getL L (nmS p t.base)).isSome = true ∧ (∃ q, Scan (F' (nmS p t.base)).1 0 t.base t.l q ∧ (F' (nmS p t.base)).1.extract 0 q = catB t.l ∧ (F' (nmS p t.base)).2 = (F' (nmS p t.base)).1.size) ∧ t.base ≤ 1099511627776 ∧ t.l.length ≤ 700 ∧ t.every = ev ∧ t.l ≠ [] := fun t ht => by
   obtain ⟨s, hs, rfl⟩ := List.mem_map.1 ht
   obtain ⟨h1, h2, h3⟩ := hsafe s hs
   refine ⟨h1, ⟨sumB s.l, ?_, ?_, ?_⟩, h.bb s (hm0 s hs), hlen s (hm0 s hs), rfl, hfull s hs⟩
   ·show Scan (F' (nmS p s.base)).1 0 s.base s.l _
    rw [h2]
    exact scan_all (hch s (hm0 s hs)) (by omega)
   ·show (F' (nmS p s.base)).1.extract 0 _ = catB s.l
    rw [h2]
    show (catB s.l).extract 0 _ = _
    rw [← catB_size, ByteArray.extract_zero_size]
   ·show (F' (nmS p s.base)).2 = (F' (nmS p s.base)).1.size
    rw [h2]
  have hrt : (ss0.map (tagS ev)).Pairwise fun a b => a.base < b.base ∧ a.end' ≤ b.base := by
   rw [List.pairwise_map]
   exact hr.1
  have hown : ∀ nm, (getL L nm).isSome = true → isOwn p nm = true → (∃ t ∈ ss0.map (tagS ev), nm = nmS p t.base) ∨ nm = nmS p x.base := fun nm h1 h2 => by
   obtain ⟨s, hs, e⟩ := h.own nm h1 h2
   rcases List.mem_append.1 hs with hs | hs
   ·exact .inl ⟨tagS ev s, List.mem_map.2 ⟨s, hs, rfl⟩, e⟩
   ·obtain rfl : s = x := by simpa using hs
    exact .inr e
  cases hg : getL L (nmS p x.base) with
  | none =>
   have hxl : x.l = [] := by
    have h1 := h.file x hmx
    rw [curF_none hg] at h1
    exact sum_nil h1.symm
   refine ⟨ss0.map (tagS ev), ⟨fun nm h1 h2 => ?_, fun t ht => (h0 t ht).1, fun t ht => (h0 t ht).2.1, hrt, fun t ht => (h0 t ht).2.2.1, fun t ht => (h0 t ht).2.2.2.1, fun t ht => (h0 t ((List.dropLast_sublist _).subset ht)).2.2.2.2.2, fun t ht => (h0 t ht).2.2.2.2.1⟩, ⟨(catL (ss0 ++ [x])).length, ?_⟩, fun k hk => ?_, fun _ hne => absurd hxl (hne x hmx), by simp, hst⟩
   ·rcases hown nm h1 h2 with h3 | h3
    ·exact h3
    ·rw [h3, hg] at h1; cases h1
   ·rw [List.take_length, tag_cat, catL_concat, hxl, List.append_nil]
   ·have h1 := hk.le
    rw [catL_concat, hxl, List.append_nil] at h1
    rw [tag_cat]
    exact h1
  | some fb =>
   have hfx := h.file x hmx
   rw [curF_some hg] at hfx
   obtain ⟨n, h3, h4, h5⟩ := hcr _ fb hg
   rw [hfx] at h4 h5
   have h6 := hsz _ (getL_some hg)
   dsimp only at h6
   rw [hfx, catB_size] at h6
   rw [catB_size] at h4
   obtain ⟨q, hq, hscan, hmaxq⟩ := scan_cut (hch x hmx) (by omega) h4
   have hqn : sumB (x.l.take q) ≤ n := by
    have h7 := hscan.at'.2.1
    rw [ByteArray.size_extract, catB_size] at h7
    omega
   have hxt : ((catB x.l).extract 0 n).extract 0 (sumB (x.l.take q)) = catB (x.l.take q) := by rw [extract_two _ hqn, cat_extract]
   have hn2 : n = ((catB x.l).extract 0 n).size := by rw [ByteArray.size_extract, catB_size]; omega
   refine ⟨ss0.map (tagS ev) ++ [⟨x.base, ev, x.l.take q⟩], ⟨fun nm h1 h2 => ?_, fun t ht => ?_, fun t ht => ?_, ?_, fun t ht => ?_, fun t ht => ?_, fun t ht => ?_, fun t ht => ?_⟩, ⟨(catL ss0).length + q, ?_⟩, fun k hk => ?_, fun hls hne => ?_, by simp, hst⟩
   ·rcases hown nm h1 h2 with ⟨t, ht, e⟩ | h3
    ·exact ⟨t, List.mem_append.2 (.inl ht), e⟩
    ·exact ⟨⟨x.base, ev, x.l.take q⟩, List.mem_append.2 (.inr (by simp)), h3⟩
   ·rcases List.mem_append.1 ht with ht | ht
    ·exact (h0 t ht).1
    ·obtain rfl : t = _ := by simpa using ht
     show (getL L (nmS p x.base)).isSome = true
     rw [hg]; rfl
   ·rcases List.mem_append.1 ht with ht | ht
    ·exact (h0 t ht).2.1
    ·obtain rfl : t = _ := by simpa using ht
     refine ⟨sumB (x.l.take q), ?_, ?_, ?_⟩
     ·show Scan (F' (nmS p x.base)).1 0 x.base (x.l.take q) _
      rw [h5]; exact hscan
     ·show (F' (nmS p x.base)).1.extract 0 _ = _
      rw [h5]; exact hxt
     ·show (F' (nmS p x.base)).2 = (F' (nmS p x.base)).1.size
      rw [h5]; exact hn2
   ·rw [List.pairwise_append]
    refine ⟨hrt, by simp, fun a ha b hb => ?_⟩
    obtain rfl : b = _ := by simpa using hb
    obtain ⟨s, hs, rfl⟩ := List.mem_map.1 ha
    exact hr.2.2 s hs x (by simp)
   ·rcases List.mem_append.1 ht with ht | ht
    ·exact (h0 t ht).2.2.1
    ·obtain rfl : t = _ := by simpa using ht
     exact h.bb x hmx
   ·rcases List.mem_append.1 ht with ht | ht
    ·exact (h0 t ht).2.2.2.1
    ·obtain rfl : t = _ := by simpa using ht
     show (x.l.take q).length ≤ 700
     rw [List.length_take]
     have := hlen x hmx
     omega
   ·rw [List.dropLast_concat] at ht
    exact (h0 t ht).2.2.2.2.2
   ·rcases List.mem_append.1 ht with ht | ht
    ·exact (h0 t ht).2.2.2.2.1
    ·obtain rfl : t = _ := by simpa using ht
     rfl
   ·rw [catL_concat, catL_concat, tag_cat, List.take_length_add_append]
   ·rw [catL_concat, tag_cat, List.length_append, List.length_take]
    rcases hk with hk | ⟨s, j, e, h7, h8, h9⟩
    ·rw [List.dropLast_concat] at hk; omega
    ·rw [List.getLast?_concat] at e
     injection e with e
     subst e
     rw [curF_some hg] at h8
     rw [List.dropLast_concat] at h9
     have h10 := hmaxq j (by omega) h7
     omega
   ·have h7 := hls x (by rw [List.getLast?_concat])
    rw [curF_some hg] at h7
    have h8 : (F (nmS p x.base)).2 = sumB x.l := by rw [h7]; exact catB_size _
    have h9 := hmaxq x.l.length (by rw [List.take_length]; omega) (Nat.le_refl _)
    rw [List.map_append, List.map_singleton, List.take_of_length_le h9]
    rfl
def RiseB (l : List Bat) : Prop := l.Pairwise fun a b => a.base + a.span ≤ b.base
theorem Chn.pair {q : Int} {l : List Bat} (h : Chn q l) : RiseB l ∧ ∀ b ∈ l, q ≤ b.base ∧ b.base + b.span ≤ endOf q l := by
 induction h with
 | nil => exact ⟨.nil, fun b hb => (by cases hb)⟩
 | cons h1 h2 h3 ih =>
  rw [endOf_cons]
  refine ⟨List.pairwise_cons.2 ⟨fun b hb => (ih.2 b hb).1, ih.1⟩, fun b hb => ?_⟩
  rcases List.mem_cons.1 hb with rfl | hb
  ·exact ⟨h2, h3.end_ge⟩
  ·have := ih.2 b hb
   have := h1.span0
   omega
theorem cat_rise (h : ss.Pairwise fun a b => a.base < b.base ∧ a.end' ≤ b.base) (hc : ∀ s ∈ ss, Chn s.base s.l) : RiseB (catL ss) := by
 induction ss with
 | nil => exact .nil
 | cons a l ih =>
  have h1 := List.pairwise_cons.1 h
  have ha := (hc a List.mem_cons_self).pair
  unfold catL RiseB
  rw [List.flatMap_cons, List.pairwise_append]
  refine ⟨ha.1, ih h1.2 fun s hs => hc s (List.mem_cons_of_mem _ hs), fun x hx y hy => ?_⟩
  obtain ⟨s, hs, hy⟩ := List.mem_flatMap.1 hy
  have h2 := (ha.2 x hx).2
  have h3 := ((hc s (List.mem_cons_of_mem _ hs)).pair.2 y hy).1
  have h4 := (h1.1 s hs).2
  have h5 : a.end' = endOf a.base a.l := rfl
  omega
end
end Go.Proofs.YtdlnafhhkpklmaaGreatDoor
/- PlogBegins: laws and the walk. -/
namespace Go.Proofs.YtdlnafhhkpklmaaGreatDoor
open Go.RowKit Go.Fm Go.BigFrame Go.Shelf Go.Maps
set_option linter.unusedVariables false
set_option linter.unusedSimpArgs false
set_option maxRecDepth 100000
section
variable {B : Nat} {w w' w1 w2 : World} {lb db mb : Nat} {p : ByteArray} {lim ev : Nat} {beg at' : Int} {es : List PE} {own : Bool} {L L' : List Row} {S S' : Nat → Prop} {room used fuse : Int} {F F' : ByteArray → ByteArray × Nat} {n : Nat}
theorem usd_mono {F F' : ByteArray → ByteArray × Nat} : ∀ {L : List Row}, (∀ r ∈ L, (F' r.1).1.size ≤ (F r.1).1.size) → usd L F' ≤ usd L F
 | [], _ => Nat.le_refl _
 | x :: l, h => by
  have ih := usd_mono (L := l) fun r hr => h r (List.mem_cons_of_mem _ hr)
  have h1 := h x List.mem_cons_self
  unfold usd at ih ⊢
  rw [List.map_cons, List.map_cons, List.sum_cons, List.sum_cons]
  omega
end
end Go.Proofs.YtdlnafhhkpklmaaGreatDoor
/- PlogBegins: the walk. -/
namespace Go.Proofs.YtdlnafhhkpklmaaGreatDoor
open Go.RowKit Go.Fm Go.BigFrame Go.Shelf Go.Maps
set_option linter.unusedVariables false
set_option linter.unusedSimpArgs false
set_option maxRecDepth 100000
section
variable {B : Nat} {w w' w1 w2 : World} {lb db mb : Nat} {p : ByteArray} {lim ev : Nat} {beg at' : Int} {es : List PE} {own : Bool} {L L' : List Row} {S S' : Nat → Prop} {room used fuse : Int} {F F' : ByteArray → ByteArray × Nat} {n : Nat}
end
end Go.Proofs.YtdlnafhhkpklmaaGreatDoor
