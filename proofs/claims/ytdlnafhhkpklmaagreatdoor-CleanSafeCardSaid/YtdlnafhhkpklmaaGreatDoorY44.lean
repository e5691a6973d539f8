/- What cleaning leaves of batches, plain. -/
import Derived.Test.YtdlnafhhkpklmaaGreatDoorY43
namespace Go.Proofs.YtdlnafhhkpklmaaGreatDoor
open Go.RowKit Go.Fm Go.BigFrame Go.Shelf Go.Maps
set_option linter.unusedVariables false
set_option linter.unusedSimpArgs false
set_option maxRecDepth 100000
theorem ok_rise {b : Bat} (h : BatOK b) : b.recs.Pairwise fun r s => r.at' < s.at' := by
 rw [List.pairwise_iff_getElem]
 intro i j hi hj hij
 have key : ∀ (d i j : Nat) (hi : i < b.recs.length) (hj : j < b.recs.length), j = i + 1 + d → (b.recs[i]).at' < (b.recs[j]).at' := by
  intro d
  induction d with
  | zero =>
   intro i j hi hj e
   subst e
   have h1 := (h.recs (i + 1) _ (List.getElem?_eq_getElem hj)).rise
   have h2 : lastAt b (i + 1) = (match b.recs[i]? with | some r => r.at' | none => -1) := rfl
   rw [h2, List.getElem?_eq_getElem hi] at h1
   exact h1
  | succ d ih =>
   intro i j hi hj e
   subst e
   have h0 := ih i (i + 1 + d) hi (by omega) rfl
   have h1 := (h.recs (i + 1 + d + 1) _ (List.getElem?_eq_getElem hj)).rise
   have h2 : lastAt b (i + 1 + d + 1) = (match b.recs[i + 1 + d]? with | some r => r.at' | none => -1) := rfl
   rw [h2, List.getElem?_eq_getElem (show i + 1 + d < b.recs.length by omega)] at h1
   exact Int.lt_trans h0 h1
 exact key (j - i - 1) i j hi hj (by omega)
theorem ok_rec {b : Bat} (h : BatOK b) {r : Rec} (hr : r ∈ b.recs) : RecOK r ∧ r.at' < b.span := by
 obtain ⟨k, hk⟩ := List.getElem?_of_mem hr
 exact ⟨(h.recs k r hk).ok, (h.recs k r hk).lt⟩
theorem ok_in {b : Bat} (h : BatOK b) : InB b := ⟨ok_rise h, fun r hr => ⟨(ok_rec h hr).1.at0, (ok_rec h hr).2⟩, h.span0⟩
theorem ok_goodB {b : Bat} (h : BatOK b) : GoodB b := by
 have NU := nums_of h.base0 h.base1 h.span0 h.span1 h.who h.len
 refine ⟨h.len, fun r hr => ?_, ⟨h.base0, by have := h.base1; omega⟩, ⟨by have := h.span0; omega, by have := h.span1; omega⟩, NU.prod⟩
 have h1 := (ok_rec h hr).1
 exact ⟨by have := h1.key; omega, by have := h1.hs; omega, h1.at0, by have := h1.at1; omega⟩
def recsZ (rs : List Rec) : Nat := (rs.map fun r => (encS r).size).sum
theorem recsZ_snoc (rs : List Rec) (r : Rec) : recsZ (rs ++ [r]) = recsZ rs + (encS r).size := by simp [recsZ]
theorem recsZ_sub {rs rs' : List Rec} (h : rs.Sublist rs') : recsZ rs ≤ recsZ rs' := by
 induction h with
 | slnil => exact Nat.le_refl _
 | cons a _ ih => unfold recsZ at ih ⊢; rw [List.map_cons, List.sum_cons]; omega
 | cons_cons a _ ih => unfold recsZ at ih ⊢; rw [List.map_cons, List.map_cons, List.sum_cons, List.sum_cons]; omega
theorem bodyTo_size (b : Bat) : ∀ k, k ≤ b.recs.length → (bodyTo b k).size = (bodyHead b).size + recsZ (b.recs.take k)
 | 0, _ => by simp [bodyTo, recsZ]
 | k + 1, hk => by
  obtain ⟨x, hx⟩ := get_of_lt (show k < b.recs.length by omega)
  have ih := bodyTo_size b k (by omega)
  rw [take_snoc' hx, recsZ_snoc]
  simp only [bodyTo, hx]
  rw [ByteArray.size_append, ih]
  omega
theorem bodyS_size (b : Bat) : (bodyS b).size = (bodyHead b).size + recsZ b.recs := by
 unfold bodyS
 rw [bodyTo_size b _ (Nat.le_refl _), List.take_length]
theorem head_size {b : Bat} {rs : List Rec} (h1 : b.recs.length ≤ 50) (h2 : rs.length ≤ 50) : (bodyHead { b with recs := rs }).size = (bodyHead b).size := by
 have h3 : ∀ n : Nat, n ≤ 50 → (putS n).size = 1 := fun n hn => by
  rw [putS_len, putL_small (by unfold zig; split <;> omega)]
  rfl
 have h4 : bodyHead { b with recs := rs } = putS b.base ++ putS b.span ++ putS b.prod ++ putS b.epoch ++ putS b.seq ++ putS rs.length := rfl
 have h5 : bodyHead b = putS b.base ++ putS b.span ++ putS b.prod ++ putS b.epoch ++ putS b.seq ++ putS b.recs.length := rfl
 rw [h4, h5, ByteArray.size_append, ByteArray.size_append (b := putS b.recs.length), h3 _ h1, h3 _ h2]
theorem body_sub {b : Bat} {rs : List Rec} (h1 : b.recs.length ≤ 50) (hs : rs.Sublist b.recs) : (bodyS { b with recs := rs }).size ≤ (bodyS b).size := by
 have h2 := hs.length_le
 have h3 := recsZ_sub hs
 rw [bodyS_size, bodyS_size, head_size h1 (by omega)]
 show (bodyHead b).size + recsZ rs ≤ _
 omega
theorem bsz_sub {b : Bat} {rs : List Rec} (h1 : b.recs.length ≤ 50) (hs : rs.Sublist b.recs) : bsz { b with recs := rs } ≤ bsz b := by
 have h2 := body_sub h1 hs
 unfold bsz
 rw [batS_size, batS_size]
 omega
theorem ok_sub {b : Bat} {rs : List Rec} (h : BatOK b) (hs : rs.Sublist b.recs) : BatOK { b with recs := rs } := by
 have hr := (ok_rise h).sublist hs
 refine { base0 := h.base0, base1 := h.base1, span0 := h.span0, span1 := h.span1, who := h.who, len := Nat.le_trans hs.length_le h.len, recs := fun k r hk => ?_, body := Nat.le_trans (body_sub h.len hs) h.body }
 have h1 := ok_rec h (hs.subset (List.mem_of_getElem? hk))
 refine ⟨h1.1, h1.2, ?_⟩
 cases k with
 | zero => show (-1 : Int) < r.at'; have := h1.1.at0; omega
 | succ k =>
  have hk' : rs[k + 1]? = some r := hk
  obtain ⟨x, hx⟩ := get_of_lt (show k < rs.length by have := (List.getElem?_eq_some_iff.1 hk').1; omega)
  have h2 : lastAt { b with recs := rs } (k + 1) = x.at' := by
   unfold lastAt
   show (match rs[k]? with | some r => r.at' | none => -1) = _
   rw [hx]
  rw [h2]
  exact pair_get hr hx hk' (by omega)
/-- Batches that are left of others; some of them as they were. -/
inductive CleanOf (P : Bat → Prop) : List Bat → List Bat → Prop
 | nil : CleanOf P [] []
 | drop {b : Bat} {l m : List Bat} (h : ¬ P b) (t : CleanOf P l m) : CleanOf P (b :: l) m
 | keep {b : Bat} {l m : List Bat} {rs : List Rec} (h : rs.Sublist b.recs) (hP : P b → rs = b.recs) (t : CleanOf P l m) : CleanOf P (b :: l) ({ b with recs := rs } :: m)
section
variable {P : Bat → Prop} {l l' m m' : List Bat}
theorem CleanOf.app (h : CleanOf P l m) (h' : CleanOf P l' m') : CleanOf P (l ++ l') (m ++ m') := by
 induction h with
 | nil => exact h'
 | drop h t ih => exact .drop h ih
 | keep h hP t ih => exact .keep h hP ih
theorem CleanOf.split : ∀ {a : List Bat} {m : List Bat}, CleanOf P (a ++ l) m → ∃ m1 m2, m = m1 ++ m2 ∧ CleanOf P a m1 ∧ CleanOf P l m2
 | [], m, h => ⟨[], m, rfl, .nil, h⟩
 | b :: a, m, h => by
  rw [List.cons_append] at h
  cases h with
  | drop h t =>
   obtain ⟨m1, m2, rfl, h1, h2⟩ := CleanOf.split t
   exact ⟨m1, m2, rfl, .drop h h1, h2⟩
  | keep h hP t =>
   obtain ⟨m1, m2, rfl, h1, h2⟩ := CleanOf.split t
   exact ⟨_ :: m1, m2, rfl, .keep h hP h1, h2⟩
theorem CleanOf.mem (h : CleanOf P l m) : ∀ c ∈ m, ∃ b ∈ l, ∃ rs : List Rec, rs.Sublist b.recs ∧ c = { b with recs := rs } := by
 induction h with
 | nil => exact fun c hc => (by cases hc)
 | drop h t ih => exact fun c hc => by obtain ⟨b, hb, h⟩ := ih c hc; exact ⟨b, List.mem_cons_of_mem _ hb, h⟩
 | keep h hP t ih =>
  intro c hc
  rcases List.mem_cons.1 hc with rfl | hc
  ·exact ⟨_, List.mem_cons_self, _, h, rfl⟩
  ·obtain ⟨b, hb, h⟩ := ih c hc
   exact ⟨b, List.mem_cons_of_mem _ hb, h⟩
theorem CleanOf.rise (h : CleanOf P l m) (hr : RiseB l) : RiseB m := by
 induction h with
 | nil => exact .nil
 | drop h t ih => exact ih (List.pairwise_cons.1 hr).2
 | keep h hP t ih =>
  obtain ⟨h1, h2⟩ := List.pairwise_cons.1 hr
  refine List.pairwise_cons.2 ⟨fun c hc => ?_, ih h2⟩
  obtain ⟨b, hb, rs, -, rfl⟩ := t.mem c hc
  exact h1 b hb
theorem CleanOf.len (h : CleanOf P l m) : m.length ≤ l.length := by
 induction h with
 | nil => exact Nat.le_refl _
 | drop h t ih => rw [List.length_cons]; omega
 | keep h hP t ih => rw [List.length_cons, List.length_cons]; omega
theorem CleanOf.cnt (h : CleanOf P l m) : cntL m ≤ cntL l ∧ (cntL m = cntL l → m = l) := by
 induction h with
 | nil => exact ⟨Nat.le_refl _, fun _ => rfl⟩
 | @drop b l m h t ih =>
  have h1 : cntL (b :: l) = 1 + b.recs.length + cntL l := by simp [cntL]
  exact ⟨by omega, fun e => by omega⟩
 | @keep b l m rs h hP t ih =>
  have h1 : cntL (b :: l) = 1 + b.recs.length + cntL l := by simp [cntL]
  have h2 : cntL ({ b with recs := rs } :: m) = 1 + rs.length + cntL m := by simp [cntL]
  have h3 := h.length_le
  refine ⟨by omega, fun e => ?_⟩
  have h4 := h.eq_of_length (by omega)
  rw [h4, ih.2 (by omega)]
theorem CleanOf.sum (h : CleanOf P l m) (hl : ∀ b ∈ l, b.recs.length ≤ 50) : sumB m ≤ sumB l := by
 induction h with
 | nil => exact Nat.le_refl _
 | @drop b l m h t ih =>
  rw [sumB_cons]
  have := ih fun x hx => hl x (List.mem_cons_of_mem _ hx)
  omega
 | @keep b l m rs h hP t ih =>
  rw [sumB_cons, sumB_cons]
  have := ih fun x hx => hl x (List.mem_cons_of_mem _ hx)
  have := bsz_sub (hl b List.mem_cons_self) h
  omega
theorem CleanOf.all (h : CleanOf P l m) (hl : ∀ b ∈ l, P b) : m = l := by
 induction h with
 | nil => rfl
 | drop h t ih => exact absurd (hl _ List.mem_cons_self) h
 | keep h hP t ih => rw [hP (hl _ List.mem_cons_self), ih fun x hx => hl x (List.mem_cons_of_mem _ hx)]
theorem CleanOf.ok (h : CleanOf P l m) (hl : ∀ b ∈ l, BatOK b) : ∀ c ∈ m, BatOK c := fun c hc => by
 obtain ⟨b, hb, rs, hs, rfl⟩ := h.mem c hc
 exact ok_sub (hl b hb) hs
end
theorem clean_of (f : ByteArray → Option (Nat × Nat)) (g : Int → Option Nat) (upto before : Int) (l : List Bat) : ∀ k, k ≤ l.length → CleanOf (fun b => isHi upto b = true) (l.take k) (cleanTo f g upto before l k)
 | 0, _ => by simp [cleanTo]; exact .nil
 | k + 1, hk => by
  obtain ⟨b, hb⟩ := get_of_lt (show k < l.length by omega)
  have ih := clean_of f g upto before l k (by omega)
  rw [take_snoc' hb]
  cases hg : (isHi upto b || !(keptOf f upto before k b).isEmpty || g b.prod == some k) with
  | true =>
   rw [cleanTo_yes hb hg]
   refine ih.app (.keep (keptOf_sub k b) (fun hh => ?_) .nil)
   have h1 := keptOf_hi (f := f) (before := before) (i := k) hh
   exact congrArg Bat.recs h1
  | false =>
   rw [cleanTo_no hb hg]
   have h2 : ¬ isHi upto b = true := fun hh => by rw [hh] at hg; simp at hg
   have h3 := ih.app (CleanOf.drop (P := fun b => isHi upto b = true) h2 .nil)
   rwa [List.append_nil] at h3
/-- Does a batch stand where those of a segment do? -/
def inR (l : List Bat) (x : Bat) : Bool := match l with
 | [] => false
 | b :: _ => decide (b.base ≤ x.base) && decide (x.base < endL l)
theorem inR_iff {b : Bat} {l : List Bat} {x : Bat} : inR (b :: l) x = true ↔ b.base ≤ x.base ∧ x.base < endL (b :: l) := by simp [inR]
theorem endL_snoc (l : List Bat) (b : Bat) : endL (l ++ [b]) = b.base + b.span := by unfold endL; rw [List.getLast?_concat]
theorem endL_ge {l : List Bat} (hr : RiseB l) (hs : ∀ b ∈ l, 1 ≤ b.span) {b : Bat} (hb : b ∈ l) : b.base + b.span ≤ endL l := by
 rcases List.eq_nil_or_concat l with rfl | ⟨l0, x, rfl⟩
 ·cases hb
 ·rw [List.concat_eq_append] at *
  rw [endL_snoc]
  obtain ⟨-, -, h3⟩ := List.pairwise_append.1 hr
  rcases List.mem_append.1 hb with hb | hb
  ·have h1 := h3 b hb x (by simp)
   have h2 := hs x (by simp)
   omega
  ·obtain rfl : b = x := by simpa using hb
   exact Int.le_refl _
/-- What is left of a segment's batches: those of all that stand where they do. -/
theorem clean_seg {P : Bat → Prop} {A s C m : List Bat} (h : CleanOf P (A ++ s ++ C) m) (hr : RiseB (A ++ s ++ C)) (hs : ∀ b ∈ A ++ s ++ C, 1 ≤ b.span) : CleanOf P s (m.filter (inR s)) := by
 obtain ⟨m1, mC, rfl, h1, hC⟩ := CleanOf.split h
 obtain ⟨mA, mS, rfl, hA, hS⟩ := CleanOf.split h1
 cases s with
 | nil =>
  have h2 : ∀ x : List Bat, x.filter (inR []) = [] := fun x => List.filter_eq_nil_iff.2 fun a _ => by simp [inR]
  rw [h2]
  exact .nil
 | cons b0 s0 =>
  obtain ⟨hr1, hr2, hr3⟩ := List.pairwise_append.1 hr
  obtain ⟨hr4, hr5, hr6⟩ := List.pairwise_append.1 hr1
  have hsS : ∀ b ∈ b0 :: s0, 1 ≤ b.span := fun b hb => hs b (List.mem_append.2 (.inl (List.mem_append.2 (.inr hb))))
  have hfA : mA.filter (inR (b0 :: s0)) = [] := List.filter_eq_nil_iff.2 fun c hc => by
   obtain ⟨b, hb, rs, -, rfl⟩ := hA.mem c hc
   rw [inR_iff]
   have h1 := hr6 b hb b0 List.mem_cons_self
   have h2 := hs b (List.mem_append.2 (.inl (List.mem_append.2 (.inl hb))))
   dsimp only
   omega
  have hfC : mC.filter (inR (b0 :: s0)) = [] := List.filter_eq_nil_iff.2 fun c hc => by
   obtain ⟨b, hb, rs, -, rfl⟩ := hC.mem c hc
   rw [inR_iff]
   rcases List.eq_nil_or_concat (b0 :: s0) with e | ⟨l0, x, e⟩
   ·cases e
   ·rw [List.concat_eq_append] at e
    rw [e, endL_snoc]
    have h1 := hr3 x (List.mem_append.2 (.inr (by rw [e]; simp))) b hb
    dsimp only
    omega
  have hfS : mS.filter (inR (b0 :: s0)) = mS := List.filter_eq_self.2 fun c hc => by
   obtain ⟨b, hb, rs, -, rfl⟩ := hS.mem c hc
   rw [inR_iff]
   have h1 := endL_ge hr5 hsS hb
   have h2 := hsS b hb
   dsimp only
   refine ⟨?_, by omega⟩
   rcases List.mem_cons.1 hb with rfl | hb
   ·exact Int.le_refl _
   ·have h3 := (List.pairwise_cons.1 hr5).1 b hb
    have h4 := hsS b0 List.mem_cons_self
    omega
  rw [List.filter_append, List.filter_append, hfA, hfC, hfS, List.nil_append, List.append_nil]
  exact hS
theorem chn_of {q : Int} : ∀ {l : List Bat} {q : Int}, (∀ b ∈ l, BatOK b) → RiseB l → (∀ b ∈ l, q ≤ b.base) → Chn q l
 | [], q, _, _, _ => .nil _
 | b :: l, q, h, hr, hq => by
  have h1 := List.pairwise_cons.1 hr
  exact .cons (h b List.mem_cons_self) (hq b List.mem_cons_self) (chn_of (q := q) (fun x hx => h x (List.mem_cons_of_mem _ hx)) h1.2 h1.1)
theorem chn_end {q : Int} {l : List Bat} (h : l ≠ []) : endOf q l = endL l := by
 unfold endOf endL
 cases e : l.getLast? with
 | none => exact absurd (List.getLast?_eq_none_iff.1 e) h
 | some b => rfl
/-- What is left of a segment goes into it. -/
theorem left_ok {P : Bat → Prop} {s : Seg} {m : List Bat} (hc : Chn s.base s.l) (h : CleanOf P s.l m) (hm : m ≠ []) : Chn s.base m ∧ endOf s.base m ≤ s.end' ∧ (∀ b ∈ m, BatOK b) ∧ sumB m ≤ sumB s.l ∧ m.length ≤ s.l.length := by
 have hok : ∀ b ∈ s.l, BatOK b := fun b hb => (hc.ok b hb).1
 have hp := hc.pair
 have hmo := h.ok hok
 refine ⟨chn_of (q := 0) hmo (h.rise hp.1) fun c hcm => ?_, ?_, hmo, h.sum fun b hb => (hok b hb).len, h.len⟩
 ·obtain ⟨b, hb, rs, -, rfl⟩ := h.mem c hcm
  exact (hp.2 b hb).1
 ·rw [chn_end hm]
  rcases List.eq_nil_or_concat m with e | ⟨l0, x, e⟩
  ·exact absurd e hm
  ·rw [List.concat_eq_append] at e
   rw [e, endL_snoc]
   obtain ⟨b, hb, rs, -, rfl⟩ := h.mem x (by rw [e]; simp)
   exact (hp.2 b hb).2
end Go.Proofs.YtdlnafhhkpklmaaGreatDoor
