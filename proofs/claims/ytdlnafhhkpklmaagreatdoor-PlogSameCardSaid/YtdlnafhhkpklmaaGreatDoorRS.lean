/- After of a segment and of a log. -/
import Derived.Test.YtdlnafhhkpklmaaGreatDoorQN
namespace Go.Proofs.YtdlnafhhkpklmaaGreatDoor
open Go.RowKit Go.Fm Go.BigFrame Go.Shelf Go.Maps
set_option linter.unusedVariables false
set_option linter.unusedSimpArgs false
set_option maxRecDepth 100000

theorem latest_le {M : Int} (h0 : -1 ≤ M) : ∀ (rs : List Rec), (∀ r ∈ rs, r.tm ≤ M) → latest rs ≤ M := by
  have : ∀ (rs : List Rec), (∀ r ∈ rs, r.tm ≤ M) → latTo rs ≤ M := by
    intro rs
    induction rs with
    | nil => intro _; exact h0
    | cons a l ih =>
      intro h
      have h1 := ih fun r hr => h r (List.mem_cons_of_mem _ hr)
      have h2 := h a List.mem_cons_self
      show max (latTo l) a.tm ≤ M
      omega
  exact fun rs h => this _ fun r hr => h r (List.mem_reverse.1 hr)
theorem latest_ok {b : Bat} (h : BatOK b) : latest b.recs ≤ 1099511627776 := latest_le (by omega) _ fun r hr => by
  obtain ⟨k, hk⟩ := List.getElem?_of_mem hr
  exact (h.recs k r hk).ok.tm1
/-- What an index knows of the batches that it has been told. -/
structure SkI (x : Ix) (l : List Bat) : Prop where
  lo : x.any = true → ∃ b, l.getLast? = some b ∧ (x.lo : Int) = b.base
  lp : x.any = true → x.lp < sumB l
  lat : ∀ b ∈ l, latest b.recs ≤ x.lat ∧ x.any = true
  es : ∀ e ∈ x.es, ∀ i b, l[i]? = some b → sumB (l.take i) ≤ e.p → latest b.recs ≤ e.t
  ep : ∀ e ∈ x.es, e.p < sumB l
theorem SkI.snoc {x : Ix} {l : List Bat} (h : SkI x l) {b : Bat} (hb : BatOK b) (hr : ∀ a, l.getLast? = some a → a.base < b.base) (hs : sumB l ≤ 1000000000) : SkI (x.add b.base (sumB l) (max (latest b.recs) 0)) (l ++ [b]) := by
  have hL := latest_ok hb
  have hp := bsz_pos b
  have hb0 := hb.base0
  have htk : x.takes b.base (sumB l) (max (latest b.recs) 0) := by
    refine ⟨⟨⟨hb.base0, hb.base1⟩, ⟨by omega, by omega⟩, ⟨by omega, by omega⟩⟩, fun ha => ?_⟩
    obtain ⟨a, e, h1⟩ := h.lo ha
    have h2 := hr a e
    have h3 := h.lp ha
    exact ⟨by omega, by omega⟩
  unfold Ix.add
  rw [if_pos htk]
  obtain ⟨t, ht⟩ : ∃ t : Nat, t = (max (latest b.recs) 0).toNat := ⟨_, rfl⟩
  have hti : (t : Int) = max (latest b.recs) 0 := by omega
  rw [← ht]
  obtain ⟨lat, hlat⟩ : ∃ lat, lat = if x.any then max x.lat t else t := ⟨_, rfl⟩
  have hsp : (((sumB l : Nat) : Int)).toNat = sumB l := by omega
  have hsum : sumB (l ++ [b]) = sumB l + bsz b := sumB_snoc _ _
  have hlt : t ≤ lat := by rw [hlat]; split <;> omega
  have hol : ∀ a ∈ l, latest a.recs ≤ lat := fun a ha => by
    obtain ⟨h1, h2⟩ := h.lat a ha
    rw [hlat, if_pos h2]
    omega
  have hall : ∀ a ∈ l ++ [b], latest a.recs ≤ lat := fun a ha => by
    rcases List.mem_append.1 ha with ha | ha
    · exact hol a ha
    · obtain rfl : a = b := by simpa using ha
      omega
  have hput : x.put b.base.toNat (((sumB l : Nat) : Int)).toNat t = { every := x.every, es := if x.entry (sumB l) then x.es ++ [⟨b.base.toNat, sumB l, lat⟩] else x.es, any := true, lo := b.base.toNat, lp := sumB l, lat := lat } := by
    unfold Ix.put
    rw [hsp, ← hlat]
  rw [hput]
  have hold : ∀ e ∈ x.es, ∀ i a, (l ++ [b])[i]? = some a → sumB ((l ++ [b]).take i) ≤ e.p → latest a.recs ≤ e.t := fun e he i a hi hle => by
    rcases Nat.lt_or_ge i l.length with h1 | h1
    · rw [List.getElem?_append_left h1] at hi
      rw [List.take_append_of_le_length (by omega)] at hle
      exact h.es e he i a hi hle
    · have h2 := h.ep e he
      have h3 : sumB l ≤ sumB ((l ++ [b]).take i) := by
        have := sumB_take_le (l := l ++ [b]) h1
        rwa [List.take_left' rfl] at this
      omega
  refine ⟨fun _ => ⟨b, by rw [List.getLast?_concat], by show ((b.base.toNat : Nat) : Int) = b.base; omega⟩, fun _ => by show sumB l < _; omega, fun a ha => ⟨hall a ha, rfl⟩, fun e he i a hi hle => ?_, fun e he => ?_⟩
  · dsimp only at he
    split at he
    · rcases List.mem_append.1 he with he | he
      · exact hold e he i a hi hle
      · obtain rfl : e = _ := by simpa using he
        exact hall a (List.mem_of_getElem? hi)
    · exact hold e he i a hi hle
  · dsimp only at he
    split at he
    · rcases List.mem_append.1 he with he | he
      · have := h.ep e he; omega
      · obtain rfl : e = _ := by simpa using he
        show sumB l < _
        omega
    · have := h.ep e he; omega
theorem Seg.ski {s : Seg} (ok : SgOK s) : ∀ n, n ≤ s.l.length → SkI (⟨s.base, s.every, s.l.take n⟩ : Seg).ix (s.l.take n)
  | 0, _ => by
    refine ⟨fun h => ?_, fun h => ?_, fun b hb => ?_, fun e he => ?_, fun e he => ?_⟩
    · simp [Seg.ix, keps, ixNew] at h
    · simp [Seg.ix, keps, ixNew] at h
    · simp at hb
    · simp [Seg.ix, keps, ixNew] at he
    · simp [Seg.ix, keps, ixNew] at he
  | n + 1, hn => by
    have ih := Seg.ski ok n (by omega)
    obtain ⟨b, hb⟩ := get_of_lt (show n < s.l.length by omega)
    have h1 := Seg.ix_push (⟨s.base, s.every, s.l.take n⟩ : Seg) b
    have hs := sumB_take_all s.l n
    have hs2 := ok.sum
    have h2 := ih.snoc (ok.ch.ok b (List.mem_of_getElem? hb)).1 (fun a ha => by
      have h3 : (s.l.take n)[(s.l.take n).length - 1]? = some a := by rw [← List.getLast?_eq_getElem?]; exact ha
      have h4 : (s.l.take n).length = n := by rw [List.length_take]; omega
      rw [h4] at h3
      have h5 : n - 1 < n := by
        rcases Nat.eq_zero_or_pos n with h | h
        · subst h; simp at ha
        · omega
      rw [List.getElem?_take, if_pos h5] at h3
      have h6 := chn_end_le ok.ch h3 hb h5
      have h7 := (ok.ch.ok a (List.mem_of_getElem? h3)).1.span0
      omega) (by omega)
    rw [take_snoc' hb]
    unfold Seg.push at h1
    dsimp only at h1
    rw [h1]
    exact h2
theorem seek_skips {s : Seg} (ok : SgOK s) (t : Int) {r : Nat} (hr : fromOf s.l (s.ix.seek t) r) : ∀ i b, s.l[i]? = some b → i < r → ¬ t ≤ latest b.recs := by
  intro i b hb hi
  have h1 := hr.2.1 i hi
  have hk := Seg.ski ok s.l.length (Nat.le_refl _)
  rw [List.take_length] at hk
  have hk2 : SkI s.ix s.l := hk
  rcases lastOf_mem (fun e => decide ((e.t : Int) < t)) s.ix.es 0 with h | ⟨e, he, hp, h⟩
  · rw [show s.ix.seek t = 0 from h] at h1
    omega
  · rw [show s.ix.seek t = e.p from h] at h1
    have h2 := hk2.es e he i b hb (by omega)
    simp at hp
    omega
/-- Where the first batch with a record of a time or a later one stands. -/
def afterB (t : Int) : List Bat → Option Int
  | [] => none
  | b :: l => if 0 < b.recs.length ∧ t ≤ latest b.recs then some b.base else afterB t l
theorem after_skip (t : Int) : ∀ (r : Nat) (l : List Bat), (∀ i b, l[i]? = some b → i < r → ¬ t ≤ latest b.recs) → afterB t (l.drop r) = afterB t l
  | 0, l, _ => by rw [List.drop_zero]
  | r + 1, [], _ => rfl
  | r + 1, b :: l, h => by
    rw [List.drop_succ_cons, after_skip t r l fun i b hb hi => h (i + 1) b (by simpa using hb) (by omega), afterB, if_neg fun hh => h 0 b rfl (by omega) hh.2]
theorem after_app (t : Int) : ∀ (a b : List Bat), afterB t (a ++ b) = (afterB t a).or (afterB t b)
  | [], b => rfl
  | x :: a, b => by
    rw [List.cons_append, afterB, afterB]
    split
    · rfl
    · exact after_app t a b
def AftPost (r : Option Int) (w : World) (e : Ending) (w' : World) : Prop := e = .returned (.tuple #[.int .i64 (r.getD 0), .bool r.isSome]) ∧ Fr (fun _ => False) w w'
set_option maxHeartbeats 16000000 in
theorem safter_walk {B : Nat} {w : World} {sb db : Nat} {nm : ByteArray} {s : Seg} {S : Nat → Prop} (h : Sg B w sb db nm s S) (t : Int) :
    Calls Tryz.prog 65 #[.pointer (some ⟨sb, 0, none⟩), .int .i64 t] w (AftPost (afterB t s.l) w) := by
  have ok := h.ok
  obtain ⟨bv, ib, T, hb, hk, hix⟩ := h.open
  obtain ⟨oa, cap, hbv, hcap, hks⟩ := hk
  rw [keps_len] at hbv hcap
  subst hbv
  have hgood : s.ix.good := ix_good _ ok.e1 ok.e2 _
  have hlen : s.ix.es.length ≤ 1000 := by
    have := ix_len s.every (keps 0 s.l)
    rw [keps_len] at this
    have := ok.len
    exact Nat.le_trans (by assumption) (by omega)
  have hfl : (s.ix.seek t : Nat) ≤ 1099511627776 := by
    rcases lastOf_mem (fun e => decide ((e.t : Int) < t)) s.ix.es 0 with h | ⟨e, he, hp, h⟩
    · rw [show s.ix.seek t = 0 from h]; omega
    · rw [show s.ix.seek t = e.p from h]
      have := (hgood.es e he).2.1
      unfold big at this
      exact this
  have x5 : ∀ y : Lcl.InS (fun w' => Fr (fun _ => False) w w'), y.w.cell? ⟨sb, 5, none⟩ = some (.slice oa s.l.length cap) := fun y => y.h.cel ((cell_of hb 5).trans rfl)
  have x6 : ∀ y : Lcl.InS (fun w' => Fr (fun _ => False) w w'), y.w.cell? ⟨sb, 6, none⟩ = some (.pointer (some ⟨ib, 0, none⟩)) := fun y => y.h.cel ((cell_of hb 6).trans rfl)
  have HF := Lib.hid (seek_any (hix.kept (w' := w.drew) fun k hk => rfl) hgood.took hgood.rise hlen t)
  have HS := Lib.hid h
  have HK := Lib.hid hks
  have OK := Lib.hid ok
  have HCAP := Lib.hid hcap
  have HFL := Lib.hid hfl
  clear h ok hb hks hix hgood hlen hcap hfl
  go_enter Tryz.func65, Tryz.ntmps65
  go_wp2_with fail
  refine Lcl.wp_region_calm (by kernel_rfl) [(true, [0, 1, 2, 4, 5, 6, 7, 9, 14]), (false, [3, 8])] #[0, 1, 3, 7, 0, 0, 32, 96, 224, 0, 992, 2032, 4095, 8191, 0] [0, 1, 2, 3, 4, 5, 6, 7, 8, 9, 10, 11, 14] 4 #[true, true, true, true, true, true, true, true, true, true, false, false, false, false, true] (by kernel_rfl) (by kernel_rfl) (by kernel_rfl) (fun w' => Fr (fun _ => False) w w') (Fr.same w).drew (fun d c a v w h => by cases d <;> exact h) ?_
  simp only [Lcl.opsOf, List.map_cons, List.map_nil, List.getElem?_toArray, List.getElem?_cons_succ, List.getElem?_cons_zero, Option.getD_some]
  refine Lcl.wpCalm_t ?_
  repeat (go_big_quiet_step (rfl))
  refine wpQuiet_nil ?_
  refine Lcl.wpCalm_f ?_
  repeat (go_big_quiet_step (rfl))
  refine wpQuiet_nil ?_
  refine Lcl.wpCalm_nil ?_
  clear x5 x6
  refine Lcl.wpG_one 10 rfl (by kernel_rfl) ?_
  go_wp2_with fail
  refine HF.out.mono ?_
  rintro e w2 ⟨rfl, hf2⟩
  have F2 := Lib.hid ((Fr.same w).drew.tr hf2)
  have HS2 := Lib.hid (HS.out.old F2.out)
  clear hf2 HF
  go_wp2_with fail
  refine ⟨fun _ _ => F2.out, ?_⟩
  refine Lcl.wpG_one 11 rfl (by kernel_rfl) ?_
  go_wp2_with fail
  refine (from_walk HS2.out (s.ix.seek t : Nat) (by omega) (by have := HFL.out; omega)).mono ?_
  rintro e w3 ⟨r, rfl, hr, hf3⟩
  have hskip := seek_skips OK.out t hr
  have hrl := hr.1
  have SK := Lib.hid (after_skip t r s.l hskip)
  have F3 := Lib.hid (F2.out.tr hf3)
  clear hf3 hr hskip
  go_wp2_with fail
  refine ⟨fun _ _ => F3.out, ?_⟩
  rcases Nat.lt_or_ge r s.l.length with hrl2 | hrl2
  · obtain ⟨b0, hb0⟩ := get_of_lt hrl2
    obtain ⟨a, rv0, rfl, -⟩ := HK.out r _ (keps_get (p := 0) hb0)
    have hcr : ¬ cap = r := by have := HCAP.out; omega
    have hcr2 : r ≤ cap := by have := HCAP.out; omega
    clear hb0
    refine Lcl.wpG_run [12, 13] _ _ _ (by kernel_rfl) ?_
    simp only [List.map_cons, List.map_nil, List.getElem?_toArray, List.getElem?_cons_succ, List.getElem?_cons_zero, Option.getD_some]
    go_wp2_with fail
    obtain ⟨q, hq⟩ : ∃ q, s.l.length = r + q := ⟨s.l.length - r, by omega⟩
    have hq2 : s.l.length - r = q := by omega
    rw [hq2]
    have hqb : q ≤ 1000 := by have := OK.out.len; omega
    have HQ := Lib.hid hq
    clear hq2 hcr hcr2 hq
    generalize hA : a.add (r * 8) = A at *
    have HA := Lib.hid hA
    clear hA
    go_loopw [24] (fun i wr => ∃ k : Nat, i = .int .i64 k ∧ k ≤ q ∧ afterB t (s.l.drop (r + k)) = afterB t s.l ∧ Fr (fun _ => False) w wr) (fun i _ => q - (intOf i).toNat)
    case atStart => exact ⟨0, rfl, Nat.zero_le _, SK.out, F3.out⟩
    case round =>
      obtain ⟨k, rfl, hkq, hak, hf⟩ := hrel
      have FR := Lib.hid hf
      have AK := Lib.hid hak
      clear hf hak
      rcases Nat.lt_or_ge k q with hlt | hge
      · obtain ⟨b, hb⟩ := get_of_lt (show r + k < s.l.length by have := HQ.out; omega)
        obtain ⟨A2, rv, ha2, -, hc, hr⟩ := HK.out (r + k) _ (keps_get (p := 0) hb)
        injection ha2 with ha2
        subst ha2
        rw [Nat.add_mul, ← add_add2, HA.out] at hc
        obtain ⟨c0, c1, c2, c3, c4, c5, c6, c7⟩ := hc.to (FR.out.block _ hc.lt fun h => h)
        have hr2 := hr.old FR.out
        have hh := hr2
        obtain ⟨ra, rcap, rfl, -⟩ := hh
        dsimp only at c0 c1 c2 c3 c4 c5 c6 c7
        have hok := (OK.out.ch.ok b (List.mem_of_getElem? hb)).1
        have hst : s.l.drop (r + k) = b :: s.l.drop (r + k + 1) := by
          rw [List.drop_eq_getElem_cons (show r + k < s.l.length by have := HQ.out; omega)]
          congr 1
          exact (List.getElem?_eq_some_iff.1 hb).2
        have hnx : afterB t s.l = if 0 < b.recs.length ∧ t ≤ latest b.recs then some b.base else afterB t (s.l.drop (r + (k + 1))) := by
          rw [← AK.out, hst, afterB]
          rfl
        have NX := Lib.hid hnx
        have hbl := hok.len
        have hfa := FR.out.alloc (.cells (kepCells ⟨b, 0 + sumB (s.l.take (r + k)), bsz b⟩ (.slice ra b.recs.length rcap)).toArray 152)
        have hxa : (wr.alloc (.cells (kepCells ⟨b, 0 + sumB (s.l.take (r + k)), bsz b⟩ (.slice ra b.recs.length rcap)).toArray 152)).heap[wr.heap.size]? = some (.cells (kepCells ⟨b, 0 + sumB (s.l.take (r + k)), bsz b⟩ (.slice ra b.recs.length rcap)).toArray 152 (0, 0)) := heap_alloc_self _ _
        have HLA := Lib.hid (latest_walk _ b _ _ (hr2.old ((Fr.same wr).alloc (.cells (kepCells ⟨b, 0 + sumB (s.l.take (r + k)), bsz b⟩ (.slice ra b.recs.length rcap)).toArray 152))) (by omega))
        have FA := Lib.hid hfa
        have XA := Lib.hid hxa
        clear hb hc hr hr2 hok hst hfa hxa hnx AK
        unfold kepCells batCells at FA XA HLA
        unfold batV at HLA
        dsimp only [List.cons_append, List.nil_append] at FA XA HLA
        rw [Nat.zero_add] at c6 FA XA HLA
        obtain ⟨z, hz⟩ : ∃ z, z = b.recs.length := ⟨_, rfl⟩
        by_cases hp : 0 < b.recs.length
        · go_wp2_with fail
          refine HLA.out.mono ?_
          rintro e w4 ⟨rfl, hf4⟩
          have F4 := Lib.hid (FA.out.tr hf4)
          have X4 := Lib.hid ((hf4.block _ (lt_of_heap XA.out) fun h => h).trans XA.out)
          clear hf4 HLA XA FA c0 c1 c2 c3 c4 c5 c6 c7
          by_cases hle : t ≤ latest b.recs
          · have d0 : w4.cell? ⟨wr.heap.size, 0, none⟩ = some (.int .i64 b.base) := (cell_of X4.out 0).trans rfl
            have hres : afterB t s.l = some b.base := by rw [NX.out, if_pos ⟨hp, hle⟩]
            have HRES := Lib.hid hres
            clear hres
            go_wp2_with fail
            go_ret2
            refine ⟨?_, F4.out⟩
            rw [HRES.out]
            rfl
          · have hnx : afterB t (s.l.drop (r + (k + 1))) = afterB t s.l := by rw [NX.out, if_neg fun h => hle h.2]
            have NX2 := Lib.hid hnx
            clear hnx
            go_wp2_with fail
            go_roundw
            case rel => exact ⟨k + 1, by go_num, hlt, NX2.out, F4.out⟩
            case measure => simp [intOf]; omega
        · have hnx : afterB t (s.l.drop (r + (k + 1))) = afterB t s.l := by rw [NX.out, if_neg fun h => hp h.1]
          have NX2 := Lib.hid hnx
          have hz0 : b.recs.length = 0 := by omega
          rw [hz0] at FA
          clear hnx HLA
          go_wp2_with fail
          go_roundw
          case rel => exact ⟨k + 1, by go_num, hlt, NX2.out, FA.out⟩
          case measure => simp [intOf]; omega
      · obtain rfl : k = q := by omega
        have hres : afterB t s.l = none := by
          rw [← AK.out, List.drop_eq_nil_of_le (by have := HQ.out; omega)]
          rfl
        have HRES := Lib.hid hres
        clear hres
        go_wp2_with fail
        go_ret2
        refine ⟨?_, FR.out⟩
        rw [HRES.out]
        rfl
  · have hres : afterB t s.l = none := by
      rw [← SK.out, List.drop_eq_nil_of_le hrl2]
      rfl
    have HRES := Lib.hid hres
    obtain rfl : r = s.l.length := by omega
    have hz : s.l.length - s.l.length = 0 := by omega
    clear hres hz hrl hrl2
    refine Lcl.wpG_run [12, 13] _ _ _ (by kernel_rfl) ?_
    simp only [List.map_cons, List.map_nil, List.getElem?_toArray, List.getElem?_cons_succ, List.getElem?_cons_zero, Option.getD_some]
    cases oa with
    | none =>
      go_wp2_with fail
      refine wp_loop_rounds 1 ?_
      rw [rounds_succ]
      go_wp2_with fail
      go_ret2
      refine ⟨?_, F3.out⟩
      rw [HRES.out]
      rfl
    | some a =>
      by_cases hcr : cap = s.l.length
      · go_wp2_with fail
        refine wp_loop_rounds 1 ?_
        rw [rounds_succ]
        go_wp2_with fail
        go_ret2
        refine ⟨?_, F3.out⟩
        rw [HRES.out]
        rfl
      · go_wp2_with fail
        refine wp_loop_rounds 1 ?_
        rw [rounds_succ]
        go_wp2_with fail
        go_ret2
        refine ⟨?_, F3.out⟩
        rw [HRES.out]
        rfl
section
variable {B : Nat} {w w' : World} {lb db mb : Nat} {p : ByteArray} {lim ev : Nat} {beg : Int} {es : List PE} {own : Bool} {L : List Row} {S : Nat → Prop}
theorem after_segs (t : Int) (ss : List Seg) (k : Nat) {s : Seg} (h : ss[k]? = some s) : afterB t (catL (ss.drop k)) = (afterB t s.l).or (afterB t (catL (ss.drop (k + 1)))) := by
  have h1 : ss.drop k = s :: ss.drop (k + 1) := by
    obtain ⟨hk, e⟩ := List.getElem?_eq_some_iff.1 h
    rw [List.drop_eq_getElem_cons hk, e]
  rw [h1]
  unfold catL
  rw [List.flatMap_cons, after_app]
def LAftV (t beg : Int) (l : List Bat) : Option Int := (afterB t l).map fun x => max x beg
theorem lafter_walk (h : Lg B w lb db mb p lim ev beg es own L S) (t : Int) : Calls Tryz.prog 26 #[.pointer (some ⟨lb, 0, none⟩), .int .i64 t] w (AftPost (LAftV t beg (catE es)) w) := by
  have H := Lib.hid h
  obtain ⟨sv, G, h1, -⟩ := h
  obtain ⟨oa, cap, rfl, hcap, hml, hrd⟩ := h1.rd
  have C4 := Lib.hid (show w.cell? ⟨lb, 4, none⟩ = some (.int .i64 beg) from (cell_of h1.b 4).trans rfl)
  have c5 : w.cell? ⟨lb, 5, none⟩ = some (.slice oa es.length cap) := (cell_of h1.b 5).trans rfl
  have hn := h1.n
  have RD := Lib.hid hrd
  clear h1 hrd
  go_enter Tryz.func26, Tryz.ntmps26
  go_wp2_with fail
  go_loopw [17] (fun i wr => ∃ k : Nat, i = .int .i64 k ∧ k ≤ es.length ∧ afterB t (catL ((segsOf es).drop k)) = afterB t (catE es) ∧ Fr (fun _ => False) w wr) (fun i _ => es.length - (intOf i).toNat)
  case atStart => exact ⟨0, rfl, Nat.zero_le _, rfl, Fr.same _⟩
  case round =>
    obtain ⟨k, rfl, hk, hak, hf⟩ := hrel
    have F := Lib.hid hf
    have AK := Lib.hid hak
    clear hf hak
    rcases Nat.lt_or_ge k es.length with hlt | hge
    · obtain ⟨x, hx⟩ := get_of_lt hlt
      obtain ⟨a, rfl, hc, -⟩ := RD.out k x hx
      have hc := F.out.cel hc
      have hsx : (segsOf es)[k]? = some x.s := by unfold segsOf; rw [List.getElem?_map, hx]; rfl
      have NX := Lib.hid (after_segs t (segsOf es) k hsx)
      have HZ := Lib.hid (safter_walk ((H.out.old F.out).seg (List.mem_of_getElem? hx)) t)
      unfold segV at hc
      clear c5 hsx hx
      go_wp2_with fail
      refine HZ.out.mono ?_
      rintro e w2 ⟨rfl, hf2⟩
      have F2 := Lib.hid (F.out.tr hf2)
      clear hc hf2 HZ
      cases hr : afterB t x.s.l with
      | none =>
        have hnx : afterB t (catL ((segsOf es).drop (k + 1))) = afterB t (catE es) := by rw [← AK.out, NX.out, hr]; rfl
        have NX2 := Lib.hid hnx
        clear hnx hr
        go_wp2_with fail
        go_roundw
        case rel => exact ⟨k + 1, by go_num, hlt, NX2.out, F2.out⟩
        case measure => simp [intOf]; omega
      | some y =>
        have hres : afterB t (catE es) = some y := by rw [← AK.out, NX.out, hr]; rfl
        have HRES := Lib.hid hres
        have c4 := F2.out.cel C4.out
        clear hres hr
        go_wp2_with fail
        go_ret2
        refine ⟨?_, F2.out⟩
        unfold LAftV
        rw [HRES.out]
        rfl
    · obtain rfl : k = es.length := by omega
      have hres : afterB t (catE es) = none := by
        rw [← AK.out, List.drop_eq_nil_of_le (by unfold segsOf; rw [List.length_map]; omega)]
        rfl
      have HRES := Lib.hid hres
      clear hres
      go_wp2_with fail
      go_ret2
      refine ⟨?_, F.out⟩
      unfold LAftV
      rw [HRES.out]
      rfl
end
end Go.Proofs.YtdlnafhhkpklmaaGreatDoor
