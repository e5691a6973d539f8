/- Read of a segment: the walk. -/
import Derived.Test.YtgbcdgfpmihkcaaDoorG7
namespace Go.Proofs.YtgbcdgfpmihkcaaDoor
open Go.RowKit Go.Fm Go.BigFrame Go.Shelf Go.Maps
set_option linter.unusedVariables false
set_option linter.unusedSimpArgs false
set_option maxRecDepth 100000

theorem add_add2 (a : Addr) (x y : Nat) : (a.add x).add y = a.add (x + y) := by
  by_cases h : x = 0
  · subst h; simp [Addr.add]
  · by_cases h2 : y = 0
    · subst h2; simp [Addr.add]
    · unfold Addr.add
      rw [if_neg h, if_neg h2, if_neg (by omega)]
      simp [Nat.add_assoc]
def ReadPost (l : List Bat) (from' most : Int) (w : World) (e : Ending) (w' : World) : Prop :=
  ∃ v, e = .returned v ∧ BatsR (fun b => w.heap.size ≤ b) w' v (pick from' most l 0 []) ∧ Fr (fun _ => False) w w'
/-- Between two batches. -/
structure RdMid (l : List Bat) (from' most : Int) (w : World) (r k : Nat) (n : Int) (o : Value) (out : List Bat) (wr : World) : Prop where
  kn : r + k ≤ l.length
  own : OwnBats (fun b => w.heap.size ≤ b) w.heap.size wr o out
  eq : pick from' most (l.drop (r + k)) n out = pick from' most l 0 []
  n0 : 0 ≤ n
  n1 : n ≤ sumB (l.take (r + k))
  len : out.length ≤ k
  fr : Fr (fun _ => False) w wr
theorem RdMid.skip {l : List Bat} {from' most : Int} {w : World} {r k : Nat} {n : Int} {o : Value} {out : List Bat} {wr w' : World} (h : RdMid l from' most w r k n o out wr) {b : Bat} (hst : l.drop (r + k) = b :: l.drop (r + k + 1))
    (hlt : r + k < l.length) (hb : b.base + b.span ≤ from') (hf : Fr (fun _ => False) wr w') : RdMid l from' most w r (k + 1) n o out w' := by
  refine ⟨by omega, h.own.old hf, ?_, h.n0, Int.le_trans h.n1 (by have := sumB_take_le (l := l) (show r + k ≤ r + (k + 1) by omega); omega), by have := h.len; omega, h.fr.tr hf⟩
  rw [← h.eq, hst, pick, if_pos hb]
  rfl
theorem RdMid.push {l : List Bat} {from' most : Int} {w : World} {r k : Nat} {n : Int} {o o' : Value} {out : List Bat} {wr w' : World} (h : RdMid l from' most w r k n o out wr) {b : Bat} (hst : l.drop (r + k) = b :: l.drop (r + k + 1)) (hsn : sumB (l.take (r + k + 1)) = sumB (l.take (r + k)) + bsz b)
    (hlt : r + k < l.length) (hb : ¬ b.base + b.span ≤ from') (hc : ¬ (0 < out.length ∧ most < n + bsz b)) (ho : OwnBats (fun b => w.heap.size ≤ b) w.heap.size w' o' (out ++ [b])) (hf : Fr (fun _ => False) w w') : RdMid l from' most w r (k + 1) (n + bsz b) o' (out ++ [b]) w' := by
  refine ⟨by omega, ho, ?_, by have := h.n0; omega, ?_, by have := h.len; simp; omega, hf⟩
  · rw [← h.eq, hst, pick, if_neg hb, if_neg hc]
    rfl
  · have := h.n1
    rw [← Nat.add_assoc, hsn]
    omega
theorem RdMid.stop {l : List Bat} {from' most : Int} {w : World} {r k : Nat} {n : Int} {o : Value} {out : List Bat} {wr w' : World} (h : RdMid l from' most w r k n o out wr) {b : Bat} (hst : l.drop (r + k) = b :: l.drop (r + k + 1))
    (hb : ¬ b.base + b.span ≤ from') (hc : 0 < out.length ∧ most < n + bsz b) (hf : Fr (fun _ => False) wr w') : ReadPost l from' most w (.returned o) w' := by
  refine ⟨o, rfl, ?_, h.fr.tr hf⟩
  rw [← h.eq, hst, pick, if_neg hb, if_pos hc]
  exact (h.own.old hf).reads (fun b hb _ => hb) fun b hb _ => hb
theorem RdMid.done {l : List Bat} {from' most : Int} {w : World} {r k : Nat} {n : Int} {o : Value} {out : List Bat} {wr : World} (h : RdMid l from' most w r k n o out wr) (hk : l.length ≤ r + k) : ReadPost l from' most w (.returned o) wr := by
  refine ⟨o, rfl, ?_, h.fr⟩
  rw [← h.eq, List.drop_eq_nil_of_le hk, pick]
  exact h.own.reads (fun b hb _ => hb) fun b hb _ => hb
set_option maxHeartbeats 16000000 in
theorem sread_walk {B : Nat} {w : World} {sb db : Nat} {nm : ByteArray} {s : Seg} {S : Nat → Prop} (h : Sg B w sb db nm s S) (from' most : Int) :
    Calls Tryd.prog 10 #[.pointer (some ⟨sb, 0, none⟩), .int .i64 from', .int .i64 most] w (ReadPost s.l from' most w) := by
  have ok := h.ok
  obtain ⟨bv, ib, T, hb, hk, hix⟩ := h.open
  obtain ⟨oa, cap, hbv, hcap, hks⟩ := hk
  rw [keps_len] at hbv hcap
  subst hbv
  have hgood : s.ix.good := ix_good _ ok.e1 ok.e2 _
  have hlen : s.ix.es.length ≤ 1000 := by
    have := ix_len s.every (keps 0 s.l)
    rw [keps_len] at this
    have := ok.len
    exact Nat.le_trans (by assumption) (by omega)
  have hfl : (s.ix.find from' : Nat) ≤ 1099511627776 := by
    rcases lastOf_mem (fun e => decide ((e.o : Int) ≤ from')) s.ix.es 0 with h | ⟨e, he, hp, h⟩
    · rw [show s.ix.find from' = 0 from h]; omega
    · rw [show s.ix.find from' = e.p from h]
      have := (hgood.es e he).2.1
      unfold big at this
      exact this
  have x5 : ∀ y : Lcl.InS (fun w' => Fr (fun _ => False) w w'), y.w.cell? ⟨sb, 5, none⟩ = some (.slice oa s.l.length cap) := fun y => y.h.cel ((cell_of hb 5).trans rfl)
  have x6 : ∀ y : Lcl.InS (fun w' => Fr (fun _ => False) w w'), y.w.cell? ⟨sb, 6, none⟩ = some (.pointer (some ⟨ib, 0, none⟩)) := fun y => y.h.cel ((cell_of hb 6).trans rfl)
  have HF := Lib.hid (find_any (hix.kept (w' := w.drew) fun k hk => rfl) hgood.took hgood.rise hlen from')
  have HS := Lib.hid h
  have HK := Lib.hid hks
  have OK := Lib.hid ok
  have HCAP := Lib.hid hcap
  have HFL := Lib.hid hfl
  clear h ok hb hks hix hgood hlen hcap hfl
  go_enter Tryd.func10, Tryd.ntmps10
  go_wp2_with fail
  refine Lcl.wp_region_calm (by kernel_rfl) [(true, [0, 1, 2, 4, 5, 6, 7, 9, 14]), (false, [3, 8])] #[0, 1, 3, 7, 0, 0, 32, 96, 224, 0, 992, 2032, 4095, 8191, 0] [0, 1, 2, 3, 4, 5, 6, 7, 8, 9, 10, 11, 14] 4 #[true, true, true, true, true, true, true, true, true, true, false, false, false, false, true] (by kernel_rfl) (by kernel_rfl) (by kernel_rfl) (fun w' => Fr (fun _ => False) w w') (Fr.same w).drew (fun d c a v w h => by cases d <;> exact h) ?_
  simp only [Lcl.opsOf, List.map_cons, List.map_nil, List.getElem?_toArray, List.getElem?_cons_succ, List.getElem?_cons_zero, Option.getD_some]
  refine Lcl.wpCalm_t ?_
  repeat (go_big_quiet_step (rfl))
  refine wpQuiet_nil ?_
  refine Lcl.wpCalm_f ?_
  repeat (go_big_quiet_step (rfl))
  refine wpQuiet_nil ?_
  refine Lcl.wpCalm_nil ?_
  clear x5 x6
  refine Lcl.wpG_one 10 rfl (by kernel_rfl) ?_
  go_wp2_with fail
  refine HF.out.mono ?_
  rintro e w2 ⟨rfl, hf2⟩
  have F2 := Lib.hid ((Fr.same w).drew.tr hf2)
  have HS2 := Lib.hid (HS.out.old F2.out)
  clear hf2 HF
  go_wp2_with fail
  refine ⟨fun _ _ => F2.out, ?_⟩
  refine Lcl.wpG_one 11 rfl (by kernel_rfl) ?_
  go_wp2_with fail
  refine (from_walk HS2.out (s.ix.find from' : Nat) (by omega) (by have := HFL.out; omega)).mono ?_
  rintro e w3 ⟨r, rfl, hr, hf3⟩
  have hskip := find_skips OK.out from' hr
  have hrl := hr.1
  have SK := Lib.hid (pick_skip from' most r s.l 0 [] hskip)
  have F3 := Lib.hid (F2.out.tr hf3)
  clear hf3 hr hskip
  go_wp2_with fail
  refine ⟨fun _ _ => F3.out, ?_⟩
  rcases Nat.lt_or_ge r s.l.length with hrl2 | hrl2
  · obtain ⟨b0, hb0⟩ := get_of_lt hrl2
    obtain ⟨a, rv0, rfl, -⟩ := HK.out r _ (keps_get (p := 0) hb0)
    have hcr : ¬ cap = r := by have := HCAP.out; omega
    have hcr2 : r ≤ cap := by have := HCAP.out; omega
    clear hb0
    refine Lcl.wpG_run [12, 13] _ _ _ (by kernel_rfl) ?_
    simp only [List.map_cons, List.map_nil, List.getElem?_toArray, List.getElem?_cons_succ, List.getElem?_cons_zero, Option.getD_some]
    go_wp2_with fail
    obtain ⟨q, hq⟩ : ∃ q, s.l.length = r + q := ⟨s.l.length - r, by omega⟩
    have hq2 : s.l.length - r = q := by omega
    rw [hq2]
    have hqb : q ≤ 1000 := by have := OK.out.len; omega
    have HQ := Lib.hid hq
    clear hq2 hcr hcr2 hq
    generalize hA : a.add (r * 8) = A at *
    have HA := Lib.hid hA
    clear hA
    go_loopw [7, 8, 27] (fun o n i wr => ∃ (k : Nat) (m : Int) (out : List Bat), i = .int .i64 k ∧ n = .int .i64 m ∧ RdMid s.l from' most w r k m o out wr) (fun _ _ i _ => q - (intOf i).toNat)
    case atStart => exact ⟨0, 0, [], rfl, rfl, ⟨hrl, OwnBats.nil _ _ _, SK.out, Int.le_refl _, by omega, Nat.le_refl _, F3.out⟩⟩
    case round =>
      obtain ⟨k, m, out, rfl, rfl, hm⟩ := hrel
      have M := Lib.hid hm
      obtain ⟨ob, ocap, rfl⟩ := hm.own.slice
      have hn0 := hm.n0
      have hn1 := hm.n1
      have hln := hm.len
      clear hm
      rcases Nat.lt_or_ge k q with hlt | hge
      · obtain ⟨b, hb⟩ := get_of_lt (show r + k < s.l.length by have := HQ.out; omega)
        obtain ⟨A2, rv, ha2, -, hc, hr⟩ := HK.out (r + k) _ (keps_get (p := 0) hb)
        injection ha2 with ha2
        subst ha2
        rw [Nat.add_mul, ← add_add2, HA.out] at hc
        obtain ⟨c0, c1, c2, c3, c4, c5, c6, c7⟩ := hc.to (M.out.fr.block _ hc.lt fun h => h)
        have hr2 := hr.old M.out.fr
        have hh := hr2
        obtain ⟨ra, rcap, rfl, -⟩ := hh
        dsimp only at c0 c1 c2 c3 c4 c5 c6 c7
        have hok := (OK.out.ch.ok b (List.mem_of_getElem? hb)).1
        have hst : s.l.drop (r + k) = b :: s.l.drop (r + k + 1) := by
          rw [List.drop_eq_getElem_cons (show r + k < s.l.length by have := HQ.out; omega)]
          congr 1
          exact (List.getElem?_eq_some_iff.1 hb).2
        have hsn : sumB (s.l.take (r + k + 1)) = sumB (s.l.take (r + k)) + bsz b := by rw [take_snoc' hb, sumB_snoc]
        have hfa := M.out.fr.alloc (.cells (kepCells ⟨b, 0 + sumB (s.l.take (r + k)), bsz b⟩ (.slice ra b.recs.length rcap)).toArray 66)
        have hxa : (wr.alloc (.cells (kepCells ⟨b, 0 + sumB (s.l.take (r + k)), bsz b⟩ (.slice ra b.recs.length rcap)).toArray 66)).heap[wr.heap.size]? = some (.cells (kepCells ⟨b, 0 + sumB (s.l.take (r + k)), bsz b⟩ (.slice ra b.recs.length rcap)).toArray 66 (0, 0)) := heap_alloc_self _ _
        have HR := Lib.hid (hr2.old ((Fr.same wr).alloc (.cells (kepCells ⟨b, 0 + sumB (s.l.take (r + k)), bsz b⟩ (.slice ra b.recs.length rcap)).toArray 66)))
        have HOW := Lib.hid (M.out.own.old ((Fr.same wr).alloc (.cells (kepCells ⟨b, 0 + sumB (s.l.take (r + k)), bsz b⟩ (.slice ra b.recs.length rcap)).toArray 66)))
        have FA := Lib.hid hfa
        have FWA := Lib.hid ((Fr.same wr).alloc (.cells (kepCells ⟨b, 0 + sumB (s.l.take (r + k)), bsz b⟩ (.slice ra b.recs.length rcap)).toArray 66))
        have XA := Lib.hid hxa
        have HOK := Lib.hid hok
        have HST := Lib.hid hst
        have HSN := Lib.hid hsn
        have hkw := kend_walk ⟨b, 0 + sumB (s.l.take (r + k)), bsz b⟩ ra b.recs.length rcap (wr.alloc (.cells (kepCells ⟨b, 0 + sumB (s.l.take (r + k)), bsz b⟩ (.slice ra b.recs.length rcap)).toArray 66)) hok.base0 hok.base1 (by have := hok.span0; dsimp only; omega) (by have := hok.span1; dsimp only; omega)
        have hbz := bsz_le hok
        have hta := sumB_take_all s.l (r + k)
        have hsm := OK.out.sum
        have HKW := Lib.hid hkw
        clear hb hc hr hr2 hok hst hsn hfa hxa hkw
        unfold kepCells batCells at FA XA HKW HR HOW FWA
        unfold kepV at HKW
        dsimp only [List.cons_append, List.nil_append] at FA XA HKW HR HOW FWA
        rw [Nat.zero_add] at c6 FA XA HKW HR HOW FWA
        go_wp2_with fail
        generalize (wr.alloc (.cells #[.int .i64 b.base, .int .i64 b.span, .int .i64 b.prod, .int .i64 b.epoch, .int .i64 b.seq, .slice ra b.recs.length rcap, .int .i64 (sumB (s.l.take (r + k))), .int .i64 (bsz b)] 66)) = W2 at *
        clear c0 c1 c2 c3 c4 c5 c6 c7
        refine HKW.out.mono ?_
        rintro e w4 ⟨rfl, hf4⟩
        have F4 := Lib.hid ((Fr.same W2).tr hf4)
        have X4 := Lib.hid ((hf4.block _ (lt_of_heap XA.out) fun h => h).trans XA.out)
        have HR4 := Lib.hid (HR.out.old hf4)
        have HOW4 := Lib.hid (HOW.out.old hf4)
        have FW := Lib.hid ((Fr.same wr).tr ((show Fr (fun _ => False) wr W2 from FWA.out).tr hf4))
        clear hf4 HKW XA HR HOW
        by_cases hle : b.base + b.span ≤ from'
        · have MS := Lib.hid (M.out.skip HST.out (by have := HQ.out; omega) hle FW.out)
          go_wp2_with fail
          go_roundw
          case rel => exact ⟨k + 1, m, out, by go_num, rfl, MS.out⟩
          case measure => simp [intOf]; omega
        · have d7 : w4.cell? ⟨wr.heap.size, 7, none⟩ = some (.int .i64 (bsz b)) := (cell_of X4.out 7).trans rfl
          have d0 : w4.cell? ⟨wr.heap.size, 0, none⟩ = some (.int .i64 b.base) := (cell_of X4.out 0).trans rfl
          have d1 : w4.cell? ⟨wr.heap.size, 1, none⟩ = some (.int .i64 b.span) := (cell_of X4.out 1).trans rfl
          have d2 : w4.cell? ⟨wr.heap.size, 2, none⟩ = some (.int .i64 b.prod) := (cell_of X4.out 2).trans rfl
          have d3 : w4.cell? ⟨wr.heap.size, 3, none⟩ = some (.int .i64 b.epoch) := (cell_of X4.out 3).trans rfl
          have d4 : w4.cell? ⟨wr.heap.size, 4, none⟩ = some (.int .i64 b.seq) := (cell_of X4.out 4).trans rfl
          have d5 : w4.cell? ⟨wr.heap.size, 5, none⟩ = some (.slice ra b.recs.length rcap) := (cell_of X4.out 5).trans rfl
          have HLE := Lib.hid hle
          by_cases hstop : 0 < out.length ∧ most < m + bsz b
          · have MS := Lib.hid (M.out.stop HST.out hle hstop FW.out)
            obtain ⟨hs1, hs2⟩ := hstop
            have hne : ¬ from' ≥ b.base + b.span := by omega
            clear hle
            go_wp2_with fail
            go_ret
            exact MS.out
          · have HNS := Lib.hid hstop
            have hrl := HOK.out.len
            have hrh : ∀ r ∈ b.recs, r.hs.length ≤ 1000 := fun r hr => by
              obtain ⟨k, hk⟩ := List.getElem?_of_mem hr
              have := (HOK.out.recs k r hk).ok.hs
              omega
            have HC := Lib.hid (copied_walk _ b _ _ HR4.out (by omega) hrh)
            clear hrh hstop
            unfold batV at HC
            by_cases hz : out.length = 0
            · have hz' : ¬ 0 < out.length := by omega
              have HZ := Lib.hid hz
              have hzz : decide (0 < out.length) = false := by simpa using hz
              clear hz
              go_wp2_with fail
              refine HC.out.mono ?_
              rintro e w5 ⟨rv5, rfl, hr5, hf5⟩
              have one5 := recs_one hr5
              have hfa5 := (FW.out.tr hf5).alloc (.cells (batCells b rv5).toArray 24)
              have HR5 := Lib.hid ((hr5.old ((Fr.same w5).alloc (.cells (batCells b rv5).toArray 24))).mono (K' := fun x => w.heap.size ≤ x ∧ (Value.slice ob out.length ocap).ownBlock ≠ some x) fun x hx _ => ⟨by
                have h1 := FA.out.size
                have h2 := F4.out.size
                have hx' : w4.heap.size ≤ x := hx
                omega, fun e => by
                have h1 := (HOW4.out.lt e).2
                have hx' : w4.heap.size ≤ x := hx
                omega⟩)
              have HOW5 := Lib.hid ((HOW4.out.old hf5).old ((Fr.same w5).alloc (.cells (batCells b rv5).toArray 24)))
              have CA5 := Lib.hid (fun j => cell_alloc_new w5 (batCells b rv5).toArray 24 j)
              have F5 := Lib.hid (M.out.fr.tr hfa5)
              obtain ⟨ra5, rcap5, hrv⟩ : ∃ a c, rv5 = .slice a b.recs.length c := by obtain ⟨a, c, h, -⟩ := HR5.out; exact ⟨a, c, h⟩
              subst hrv
              have hol : out.length < 1000000 := by omega
              have hwb : w.heap.size ≤ (w5.alloc (.cells (batCells b (.slice ra5 b.recs.length rcap5)).toArray 24)).heap.size := F5.out.size
              have HWB := Lib.hid hwb
              clear hr5 hf5 hfa5 hwb one5 HC d0 d1 d2 d3 d4 d5 d7
              unfold batCells at HR5 HOW5 CA5 F5 HWB
              unfold batV
              go_wp2_with (at_builtin; refine wpList_push_bat _ rfl (.tmp 47) (.tmp 51) rfl (fun b => w.heap.size ≤ b) w.heap.size (.slice ob out.length ocap) out rfl HOW5.out w5.heap.size 1 rfl b (.slice ra5 b.recs.length rcap5) CA5.out HR5.out rfl hol HWB.out ?_)
              intro v6 w6 ho6 hg6 hb6
              have F6 := Lib.hid (F5.out.grown hg6 fun k hk => .inr (HOW5.out.lt hk).1)
              have MP := Lib.hid (M.out.push HST.out HSN.out (by have := HQ.out; omega) (by have := HLE.out; omega) HNS.out ho6 F6.out)
              clear ho6 hg6 hb6
              go_wp2_with fail
              go_roundw
              case rel => exact ⟨k + 1, m + bsz b, out ++ [b], by go_num, rfl, MP.out⟩
              case measure => simp [intOf]; omega
            · have hz' : 0 < out.length := by omega
              have hnm : ¬ most < m + bsz b := fun h => HNS.out ⟨hz', h⟩
              have hle2 : m + bsz b ≤ most := by omega
              clear hz hnm
              go_wp2_with fail
              refine HC.out.mono ?_
              rintro e w5 ⟨rv5, rfl, hr5, hf5⟩
              have one5 := recs_one hr5
              have hfa5 := (FW.out.tr hf5).alloc (.cells (batCells b rv5).toArray 24)
              have HR5 := Lib.hid ((hr5.old ((Fr.same w5).alloc (.cells (batCells b rv5).toArray 24))).mono (K' := fun x => w.heap.size ≤ x ∧ (Value.slice ob out.length ocap).ownBlock ≠ some x) fun x hx _ => ⟨by
                have h1 := FA.out.size
                have h2 := F4.out.size
                have hx' : w4.heap.size ≤ x := hx
                omega, fun e => by
                have h1 := (HOW4.out.lt e).2
                have hx' : w4.heap.size ≤ x := hx
                omega⟩)
              have HOW5 := Lib.hid ((HOW4.out.old hf5).old ((Fr.same w5).alloc (.cells (batCells b rv5).toArray 24)))
              have CA5 := Lib.hid (fun j => cell_alloc_new w5 (batCells b rv5).toArray 24 j)
              have F5 := Lib.hid (M.out.fr.tr hfa5)
              obtain ⟨ra5, rcap5, hrv⟩ : ∃ a c, rv5 = .slice a b.recs.length c := by obtain ⟨a, c, h, -⟩ := HR5.out; exact ⟨a, c, h⟩
              subst hrv
              have hol : out.length < 1000000 := by omega
              have hwb : w.heap.size ≤ (w5.alloc (.cells (batCells b (.slice ra5 b.recs.length rcap5)).toArray 24)).heap.size := F5.out.size
              have HWB := Lib.hid hwb
              clear hr5 hf5 hfa5 hwb one5 HC d0 d1 d2 d3 d4 d5 d7
              unfold batCells at HR5 HOW5 CA5 F5 HWB
              unfold batV
              go_wp2_with (at_builtin; refine wpList_push_bat _ rfl (.tmp 47) (.tmp 51) rfl (fun b => w.heap.size ≤ b) w.heap.size (.slice ob out.length ocap) out rfl HOW5.out w5.heap.size 1 rfl b (.slice ra5 b.recs.length rcap5) CA5.out HR5.out rfl hol HWB.out ?_)
              intro v6 w6 ho6 hg6 hb6
              have F6 := Lib.hid (F5.out.grown hg6 fun k hk => .inr (HOW5.out.lt hk).1)
              have MP := Lib.hid (M.out.push HST.out HSN.out (by have := HQ.out; omega) (by have := HLE.out; omega) HNS.out ho6 F6.out)
              clear ho6 hg6 hb6
              go_wp2_with fail
              go_roundw
              case rel => exact ⟨k + 1, m + bsz b, out ++ [b], by go_num, rfl, MP.out⟩
              case measure => simp [intOf]; omega
      · have MS := Lib.hid (M.out.done (by have := HQ.out; omega))
        have hkq : ¬ (k : Int) < q := by omega
        go_wp2_with fail
        go_ret
        exact MS.out
  · obtain rfl : r = s.l.length := by omega
    have hcr2 := HCAP.out
    have hz : pick from' most s.l 0 [] = [] := by rw [← SK.out, List.drop_length, pick]
    have HZ := Lib.hid hz
    have hss : s.l.length - s.l.length = 0 := by omega
    have hll := OK.out.len
    clear hz hrl hrl2
    refine Lcl.wpG_run [12, 13] _ _ _ (by kernel_rfl) ?_
    simp only [List.map_cons, List.map_nil, List.getElem?_toArray, List.getElem?_cons_succ, List.getElem?_cons_zero, Option.getD_some]
    cases oa with
    | none =>
      go_wp2_with fail
      refine wp_loop_rounds 1 ?_
      rw [rounds_succ]
      go_wp2_with fail
      go_ret
      exact ⟨_, rfl, by rw [HZ.out]; exact (OwnBats.nil (fun b => w.heap.size ≤ b) w.heap.size w3).reads (fun b hb _ => hb) fun b hb _ => hb, F3.out⟩
    | some a =>
      by_cases hcr : cap = s.l.length
      · go_wp2_with fail
        refine wp_loop_rounds 1 ?_
        rw [rounds_succ]
        go_wp2_with fail
        go_ret
        exact ⟨_, rfl, by rw [HZ.out]; exact (OwnBats.nil (fun b => w.heap.size ≤ b) w.heap.size w3).reads (fun b hb _ => hb) fun b hb _ => hb, F3.out⟩
      · go_wp2_with fail
        refine wp_loop_rounds 1 ?_
        rw [rounds_succ]
        go_wp2_with fail
        go_ret
        exact ⟨_, rfl, by rw [HZ.out]; exact (OwnBats.nil (fun b => w.heap.size ≤ b) w.heap.size w3).reads (fun b hb _ => hb) fun b hb _ => hb, F3.out⟩
end Go.Proofs.YtgbcdgfpmihkcaaDoor
