/- The batches of all segments; those of some that stand in a segment: the walks. -/
import Derived.Test.YtdlnafhhkpklmaaGreatDoorZ47
namespace Go.Proofs.YtdlnafhhkpklmaaGreatDoor
open Go.RowKit Go.Fm Go.BigFrame Go.Shelf Go.Maps
set_option linter.unusedVariables false
set_option linter.unusedSimpArgs false
set_option maxRecDepth 100000
section
variable {B : Nat} {w w' w1 w2 : World} {lb db mb : Nat} {p : ByteArray} {lim ev : Nat} {beg : Int} {es : List PE} {own : Bool} {L L' : List Row} {S S' : Nat → Prop} {room used fuse : Int} {F F' : ByteArray → ByteArray × Nat} {n : Nat} {ss : List Seg}
def listsOf (es : List PE) : List (List Bat) := es.map fun e => e.s.l
/-- What Segment tells of a log whose segments are small. -/
theorem lseg_all (h : Lg B w lb db mb p lim ev beg es own L S) (k : Nat) : Calls Tryz.prog 16 #[.pointer (some ⟨lb, 0, none⟩), .int .i64 k] w fun e w' =>
  (∃ l, (listsOf es)[k]? = some l ∧ ∃ oa cap, e = .returned (.tuple #[.slice oa l.length cap, .bool true]) ∧ BatsR (fun b => w.heap.size ≤ b) w' (.slice oa l.length cap) l ∧ Fr (fun _ => False) w w') ∨ (es.length ≤ k ∧ e = .returned (.tuple #[.slice none 0 0, .bool false]) ∧ Fr (fun _ => False) w w') := by
 have hsg := fun e he => h.seg (e := e) he
 refine (lsegment_walk h k).mono ?_
 rintro e w1 ⟨v, ok, rfl, hok, hno, hyes, hf⟩
 cases ok with
 | false =>
  right
  refine ⟨?_, by rw [hno rfl], hf⟩
  rcases Nat.lt_or_ge k es.length with h1 | h1
  ·have := hok.2 ⟨by omega, by omega⟩
   cases this
  ·exact h1
 | true =>
  left
  obtain ⟨h1, h2⟩ := hok.1 rfl
  obtain ⟨x, hx⟩ := get_of_lt (show k < es.length by omega)
  have h3 := hyes x rfl (by simpa using hx)
  have hS := (hsg x (List.mem_of_getElem? hx)).ok
  have hpk : pick 0 1099511627776 x.s.l 0 [] = x.s.l := by
   rw [pick_all 0 1099511627776 x.s.l 0 [] (fun b hb => by have := (hS.ch.ok b hb).1.base0; have := (hS.ch.ok b hb).1.span0; omega) (by have := hS.sum; omega), List.nil_append]
  rw [hpk] at h3
  have h4 := h3
  obtain ⟨oa, cap, rfl, -⟩ := h4
  exact ⟨x.s.l, by unfold listsOf; rw [List.getElem?_map, hx]; rfl, oa, cap, rfl, h3, hf⟩
def BatssPost (w : World) (ls : List (List Bat)) (e : Ending) (w' : World) : Prop := ∃ v, e = .returned v ∧ BatssR (fun b => w.heap.size ≤ b) w' v ls ∧ Fr (fun _ => False) w w'
set_option maxHeartbeats 8000000 in
theorem segments_walk (h : Lg B w lb db mb p lim ev beg es own L S) (hes : es.length ≤ 9) : Calls Tryz.prog 31 #[.pointer (some ⟨lb, 0, none⟩)] w (BatssPost w (listsOf es)) := by
 have H := Lib.hid h
 obtain ⟨ls, hls⟩ : ∃ ls, ls = listsOf es := ⟨_, rfl⟩
 have hll : ls.length ≤ 9 := by rw [hls]; unfold listsOf; rw [List.length_map]; exact hes
 have hle9 : ∀ k, es.length ≤ k → ls.length ≤ k := fun k hk => by rw [hls]; unfold listsOf; rw [List.length_map]; exact hk
 have HLS := Lib.hid (And.intro hls hle9)
 rw [← hls]
 clear h hls hes hle9
 go_enter Tryz.func31, Tryz.ntmps31
 go_wp2_with fail
 go_loopw [3, 4] (fun o i wr => ∃ (k : Nat) (M : List (List Bat)), i = .int .i64 k ∧ k ≤ 9 ∧ M = ls.take k ∧ OwnBatss (fun b => w.heap.size ≤ b) w.heap.size wr o M ∧ Fr (fun _ => False) w wr) (fun _ i _ => 9 - (intOf i).toNat)
 case atStart => exact ⟨0, [], rfl, Nat.zero_le _, rfl, OwnBatss.nil _ _ _, Fr.same _⟩
 case round =>
  obtain ⟨k, M, rfl, hk, hM, ho, hf⟩ := hrel
  have FF := Lib.hid hf
  have O := Lib.hid ho
  have HM := Lib.hid hM
  obtain ⟨ob, ocap, rfl, -⟩ := ho.slice
  clear hf ho hM
  rcases Nat.lt_or_ge k 9 with hlt | hge
  ·have hki : (k : Int) < 9 := by omega
   have HS := Lib.hid (lseg_all (H.out.old FF.out) k)
   go_wp2_with fail
   refine HS.out.mono ?_
   rintro e w2 hp
   rcases hp with ⟨l, hl, oa, cap, rfl, hb, hf2⟩ | ⟨hle, rfl, hf2⟩
   ·rw [← HLS.out.1] at hl
    have F2 := Lib.hid (FF.out.tr hf2)
    have hsn := take_snoc' hl
    rw [← HM.out] at hsn
    have fa := (Fr.same w2).alloc (.cells #[.slice oa l.length cap] 22)
    have OWN := Lib.hid ((O.out.old hf2).old fa)
    have CA := Lib.hid (show (w2.alloc (.cells #[.slice oa l.length cap] 22)).cell? ⟨w2.heap.size, 0, none⟩ = some (.slice oa l.length cap) from cell_alloc_new w2 _ 22 0)
    have hlt' : ∀ x, (Value.slice ob M.length ocap).ownBlock = some x → x < wr.heap.size := fun x hx => (O.out.lt hx).2
    have hszF := FF.out.size
    have RR := Lib.hid ((hb.old fa).mono (K' := fun b => w.heap.size ≤ b ∧ (Value.slice ob M.length ocap).ownBlock ≠ some b) fun b h1 _ => ⟨Nat.le_trans hszF h1, fun e => by have := hlt' b e; have h2 : wr.heap.size ≤ b := h1; omega⟩)
    have FA := Lib.hid (F2.out.tr fa)
    have HSN := Lib.hid hsn
    have hlen : M.length < 1000000 := by rw [HM.out, List.length_take]; omega
    clear hl hb hf2 hsn fa hlt' HS
    go_wp2_with (at_builtin; refine wpList_push_bats _ rfl (.tmp 18) (.tmp 20) rfl (fun b => w.heap.size ≤ b) w.heap.size (.slice ob M.length ocap) M rfl OWN.out w2.heap.size 1 rfl l (.slice oa l.length cap) CA.out RR.out hlen FA.out.size ?_)
    intro v6 w6 ho6 hg6 hb6
    have O6 := Lib.hid ho6
    have F6 := Lib.hid (FA.out.grown hg6 fun k hk => .inr (OWN.out.lt hk).1)
    clear ho6 hg6 hb6 OWN CA RR
    go_wp2_with fail
    go_roundw
    case rel => exact ⟨k + 1, M ++ [l], by go_num, hlt, HSN.out.symm, O6.out, F6.out⟩
    case measure => simp [intOf]; omega
   ·have F2 := Lib.hid (FF.out.tr hf2)
    have O2 := Lib.hid (O.out.old hf2)
    have hle2 := HLS.out.2 k hle
    have htk : M = ls.take (k + 1) := by rw [HM.out, List.take_of_length_le (by omega), List.take_of_length_le (by omega)]
    have HTK := Lib.hid htk
    clear hf2 htk HS hle hle2
    go_wp2_with fail
    go_roundw
    case rel => exact ⟨k + 1, M, by go_num, hlt, HTK.out, O2.out, F2.out⟩
    case measure => simp [intOf]; omega
  ·obtain rfl : k = 9 := by omega
   have htk : M = ls := by rw [HM.out]; exact List.take_of_length_le (by omega)
   have HTK := Lib.hid htk
   clear htk
   go_wp2_with fail
   go_ret
   refine ⟨_, rfl, ?_, FF.out⟩
   have h1 := O.out.reads (K' := fun b => w.heap.size ≤ b) (fun b h _ => h) fun b h _ => h
   rw [← HTK.out]
   exact h1
/-- Those of some that stand in a segment; the segment's, if there are none. -/
def insideL (some' seg : List Bat) : List Bat := if some'.filter (inR seg) = [] then seg else some'.filter (inR seg)
def InsPost (w : World) (l : List Bat) (e : Ending) (w' : World) : Prop := ∃ oa cap, e = .returned (.slice oa l.length cap) ∧ BatsR (fun _ => True) w' (.slice oa l.length cap) l ∧ Fr (fun _ => False) w w'
theorem inR_eq {b x last : Bat} {l : List Bat} (h : (b :: l).getLast? = some last) : inR (b :: l) x = (decide (b.base ≤ x.base) && decide (x.base < last.base + last.span)) := by
 unfold inR endL
 rw [h]
set_option maxHeartbeats 16000000 in
theorem inside_walk (K K' : Nat → Prop) (m seg : List Bat) (v v' : Value) (w : World) (h : BatsR K w v m) (h' : BatsR K' w v' seg) (hm : ∀ b ∈ m, BatOK b) (hs : ∀ b ∈ seg, BatOK b) (hml : m.length ≤ 1000) (hsl : seg.length ≤ 1000) : Calls Tryz.prog 34 #[v, v'] w (InsPost w (insideL m seg)) := by
 have hl2 := h.mono (K' := fun b => b < w.heap.size) fun b _ hb => hb
 have R1 := Lib.hid h'
 obtain ⟨oa, cap, rfl, hk⟩ := hl2
 obtain ⟨ob, bcap, rfl, hk'⟩ := h'
 have HK := Lib.hid hk
 have HK' := Lib.hid hk'
 have HM := Lib.hid hm
 have HS := Lib.hid hs
 clear h hk hk' hm hs
 cases hseg : seg with
 | nil =>
  subst hseg
  have hin : insideL m [] = [] := by
   unfold insideL
   split
   ·rfl
   ·rename_i hf
    exact absurd (List.filter_eq_nil_iff.2 fun a _ => by simp [inR]) hf
  have HIN := Lib.hid hin
  clear hin
  rw [List.length_nil] at *
  go_enter Tryz.func34, Tryz.ntmps34
  go_wp2_with fail
  refine wp_loop_rounds 1 ?_
  rw [rounds_succ]
  go_wp2_with fail
  all_goals
   go_ret
   rw [HIN.out]
   exact ⟨ob, bcap, rfl, R1.out.mono fun _ _ _ => trivial, Fr.same _⟩
 | cons s0 sl =>
  rcases List.eq_nil_or_concat seg with e | ⟨sl', last, e⟩
  ·rw [hseg] at e; cases e
  ·rw [List.concat_eq_append] at e
   have hlast : (s0 :: sl).getLast? = some last := by rw [← hseg, e, List.getLast?_concat]
   have hinr := fun x => inR_eq (x := x) hlast
   have h0 : seg[0]? = some s0 := by rw [hseg]; rfl
   obtain ⟨A0, rv0, rfl, -, hc0, -⟩ := HK'.out 0 s0 h0
   have hL : seg[seg.length - 1]? = some last := by rw [← List.getLast?_eq_getElem?, hseg]; exact hlast
   obtain ⟨AL, rvL, eL, -, hcL, hrL⟩ := HK'.out _ last hL
   injection eL with eL
   subst eL
   have ha00 : A0.add (0 * 6) = A0 := by simp [Addr.add]
   rw [ha00] at hc0
   have hlen1 : 1 ≤ seg.length := by rw [hseg]; simp
   have hokL := HS.out last (List.mem_of_getElem? hL)
   have hok0 := HS.out s0 (List.mem_of_getElem? h0)
   have hfl : m.filter (inR seg) = m.filter (inR (s0 :: sl)) := by rw [hseg]
   have HINR := Lib.hid hinr
   have HSEG := Lib.hid hseg
   have HC0 := Lib.hid hc0
   have HCL := Lib.hid hcL
   obtain ⟨raL, rcapL, rfl, -⟩ := hrL
   have y0 := hokL.base0
   have y1 := hokL.base1
   have y2 := hokL.span0
   have y3 := hokL.span1
   rw [← hseg]
   clear hlast hinr h0 hc0 hL hcL hokL hok0 hfl hseg e
   obtain ⟨n, hn⟩ : ∃ n : Nat, n + 1 = seg.length := ⟨seg.length - 1, by omega⟩
   have HN := Lib.hid hn
   have hn1 : seg.length - 1 = n := by omega
   rw [hn1] at HCL
   rw [← hn] at R1 hsl ⊢
   clear hn1 hn hlen1 ha00
   go_enter Tryz.func34, Tryz.ntmps34
   go_wp2_with fail
   go_loopw [5, 6] (fun o i wr => ∃ (k : Nat) (M : List Bat), i = .int .i64 k ∧ k ≤ m.length ∧ M = (m.take k).filter (inR seg) ∧ OwnBats (fun b => b < w.heap.size) w.heap.size wr o M ∧ Fr (fun _ => False) w wr) (fun _ i _ => m.length - (intOf i).toNat)
   case atStart => exact ⟨0, [], rfl, Nat.zero_le _, rfl, OwnBats.nil _ _ _, Fr.same _⟩
   case round =>
    obtain ⟨k, M, rfl, hkm, hM, ho, hf⟩ := hrel
    have FF := Lib.hid hf
    have O := Lib.hid ho
    have HMM := Lib.hid hM
    obtain ⟨oo, ocap, rfl⟩ := ho.slice
    clear hf ho hM
    rcases Nat.lt_or_ge k m.length with hlt | hge
    ·obtain ⟨b, hb⟩ := get_of_lt hlt
     obtain ⟨A, rv, rfl, hA, hc, hr⟩ := HK.out k b hb
     have hc1 := hc.to (FF.out.block _ hc.lt fun h => h)
     obtain ⟨l0, l1, l2, l3, l4, l5⟩ := HCL.out.to (FF.out.block _ HCL.out.lt fun h => h)
     have hok := HM.out b (List.mem_of_getElem? hb)
     have b0 := hok.base0
     have b1 := hok.base1
     have hsn : (m.take (k + 1)).filter (inR seg) = M ++ (if inR seg b = true then [b] else []) := by
      rw [take_snoc' hb, List.filter_append, ← HMM.out]
      congr 1
      cases hi : inR seg b <;> simp [hi]
     have hi := HINR.out b
     rw [← HSEG.out] at hi
     rw [hi] at hsn
     have HSN := Lib.hid hsn
     have fal := (Fr.same wr).alloc (.cells #[.int .i64 last.base, .int .i64 last.span, .int .i64 last.prod, .int .i64 last.epoch, .int .i64 last.seq, .slice raL last.recs.length rcapL] 36)
     obtain ⟨f0, f1, f2, f3, f4, f5⟩ := hc1.to (fal.block _ hc1.lt fun h => h)
     have HC1 := Lib.hid hc1
     have g0 := fal.cel (FF.out.cel HC0.out.c0)
     have zb : ∀ y : Lcl.InS (fun w' => Fr (fun _ => False) (wr.alloc (.cells #[.int .i64 last.base, .int .i64 last.span, .int .i64 last.prod, .int .i64 last.epoch, .int .i64 last.seq, .slice raL last.recs.length rcapL] 36)) w'), y.w.cell? (A.add (k * 6)) = some (.int .i64 b.base) := fun y => y.h.cel f0
     have z0 : ∀ y : Lcl.InS (fun w' => Fr (fun _ => False) (wr.alloc (.cells #[.int .i64 last.base, .int .i64 last.span, .int .i64 last.prod, .int .i64 last.epoch, .int .i64 last.seq, .slice raL last.recs.length rcapL] 36)) w'), y.w.cell? A0 = some (.int .i64 s0.base) := fun y => y.h.cel g0
     have w0 : ∀ y : Lcl.InS (fun w' => Fr (fun _ => False) (wr.alloc (.cells #[.int .i64 last.base, .int .i64 last.span, .int .i64 last.prod, .int .i64 last.epoch, .int .i64 last.seq, .slice raL last.recs.length rcapL] 36)) w'), y.w.cell? ⟨wr.heap.size, 0, none⟩ = some (.int .i64 last.base) := fun y => y.h.cel (cell_alloc_new wr _ 36 0)
     have w1 : ∀ y : Lcl.InS (fun w' => Fr (fun _ => False) (wr.alloc (.cells #[.int .i64 last.base, .int .i64 last.span, .int .i64 last.prod, .int .i64 last.epoch, .int .i64 last.seq, .slice raL last.recs.length rcapL] 36)) w'), y.w.cell? ⟨wr.heap.size, 1, none⟩ = some (.int .i64 last.span) := fun y => y.h.cel (cell_alloc_new wr _ 36 1)
     have FAL := Lib.hid fal
     have HR := Lib.hid hr
     clear hb hc hc1 hr hok hsn hi fal f0 f1 f2 f3 f4 f5 g0
     go_wp2_with fail
     generalize (wr.alloc (.cells #[.int .i64 last.base, .int .i64 last.span, .int .i64 last.prod, .int .i64 last.epoch, .int .i64 last.seq, .slice raL last.recs.length rcapL] 36)) = W1 at *
     clear l0 l1 l2 l3 l4 l5
     have FALD := Lib.hid (FAL.out.drew)
     by_cases h1 : s0.base ≤ b.base
     ·by_cases h2 : b.base < last.base + last.span
      ·skip
       refine Lcl.wp_region_calm (by kernel_rfl) [(true, [0, 1, 2, 3, 5, 6, 7]), (false, [4, 8]), (true, [9, 10, 11, 12, 13, 14, 16, 18]), (false, [15, 17, 19]), (true, [20, 21, 22])] #[0, 0, 3, 7, 15, 0, 32, 96, 224, 511, 1023, 2047, 2047, 8191, 16383, 32767, 2047, 67583, 2047, 264191, 985087, 2097151, 4194303] [0, 1, 2, 3, 4, 5, 6, 7, 8, 9, 10, 11, 12, 13, 14, 15, 16, 17, 18, 19, 20] 0 #[true, true, true, true, true, true, true, true, true, true, true, true, true, true, true, true, true, true, true, true, true, true, true] (by kernel_rfl) (by kernel_rfl) (by kernel_rfl) (fun w' => Fr (fun _ => False) W1 w') (Fr.same W1).drew (fun d c a v w h => by cases d <;> exact h) ?_
       simp only [Lcl.opsOf, List.map_cons, List.map_nil, List.getElem?_toArray, List.getElem?_cons_succ, List.getElem?_cons_zero, Option.getD_some]
       refine Lcl.wpCalm_t ?_
       repeat (go_big_quiet_step (rfl))
       refine wpQuiet_nil ?_
       refine Lcl.wpCalm_f ?_
       repeat (go_big_quiet_step (rfl))
       refine wpQuiet_nil ?_
       refine Lcl.wpCalm_t ?_
       repeat (go_big_quiet_step (rfl))
       refine wpQuiet_nil ?_
       refine Lcl.wpCalm_f ?_
       repeat (go_big_quiet_step (rfl))
       refine wpQuiet_nil ?_
       refine Lcl.wpCalm_t ?_
       repeat (go_big_quiet_step (rfl))
       refine wpQuiet_nil ?_
       refine Lcl.wpCalm_nil ?_
       clear zb z0 w0 w1
       refine Lcl.wpG_run [] _ _ _ (by kernel_rfl) ?_
       simp only [List.map_cons, List.map_nil, List.getElem?_toArray, List.getElem?_cons_succ, List.getElem?_cons_zero, Option.getD_some]
       have hsn : (m.take (k + 1)).filter (inR seg) = M ++ [b] := by rw [HSN.out, if_pos (by simp; omega)]
       have HSN2 := Lib.hid hsn.symm
       obtain ⟨f0, f1, f2, f3, f4, f5⟩ := HC1.out.to (FALD.out.block _ HC1.out.lt fun h => h)
       have hr4 := (HR.out.old FF.out).old FALD.out
       have hh := hr4
       obtain ⟨ra, rcap, rfl, -⟩ := hh
       have OD := O.out.old FALD.out
       have FD := FF.out.tr FALD.out
       have fa := (Fr.same W1.drew).alloc (.cells (batCells b (.slice ra b.recs.length rcap)).toArray 36)
       have OWN := Lib.hid (OD.old fa)
       have CA := Lib.hid (fun j => cell_alloc_new W1.drew (batCells b (.slice ra b.recs.length rcap)).toArray 36 j)
       have RR := Lib.hid ((hr4.old fa).mono (K' := fun x => x < w.heap.size ∧ (Value.slice oo M.length ocap).ownBlock ≠ some x) fun x hx _ => ⟨hx, fun e => by have := (O.out.lt e).1; have h3 : x < w.heap.size := hx; omega⟩)
       have FA := Lib.hid (FD.tr fa)
       have hlen : M.length < 1000000 := by
        rw [HMM.out]
        have := List.length_filter_le (inR seg) (m.take k)
        rw [List.length_take] at this
        omega
       unfold batCells at OWN CA RR FA
       clear hsn hr4 OD FD fa
       go_wp2_with (at_builtin; refine wpList_push_bat _ rfl (.tmp 48) (.tmp 53) rfl (fun b => b < w.heap.size) w.heap.size (.slice oo M.length ocap) M rfl OWN.out W1.drew.heap.size 1 rfl b (.slice ra b.recs.length rcap) CA.out RR.out rfl hlen FA.out.size ?_)
       intro v6 w6 ho6 hg6 hb6
       have O6 := Lib.hid ho6
       have F6 := Lib.hid (FA.out.grown hg6 fun k hk => .inr (OWN.out.lt hk).1)
       clear ho6 hg6 hb6 OWN CA RR f0 f1 f2 f3 f4 f5
       go_wp2_with fail
       go_roundw
       case rel => exact ⟨k + 1, M ++ [b], by go_num, hlt, HSN2.out, O6.out, F6.out⟩
       case measure => simp [intOf]; omega
      ·skip
       refine Lcl.wp_region_calm (by kernel_rfl) [(true, [0, 1, 2, 3, 5, 6, 7]), (false, [4, 8]), (true, [9, 10, 11, 12, 13, 14, 16, 18]), (false, [15, 17, 19]), (true, [20, 21, 22])] #[0, 0, 3, 7, 15, 0, 32, 96, 224, 511, 1023, 2047, 2047, 8191, 16383, 32767, 2047, 67583, 2047, 264191, 985087, 2097151, 4194303] [0, 1, 2, 3, 4, 5, 6, 7, 8, 9, 10, 11, 12, 13, 14, 15, 16, 17, 18, 19, 20] 0 #[true, true, true, true, true, true, true, true, true, true, true, true, true, true, true, true, true, true, true, true, true, true, true] (by kernel_rfl) (by kernel_rfl) (by kernel_rfl) (fun w' => Fr (fun _ => False) W1 w') (Fr.same W1).drew (fun d c a v w h => by cases d <;> exact h) ?_
       simp only [Lcl.opsOf, List.map_cons, List.map_nil, List.getElem?_toArray, List.getElem?_cons_succ, List.getElem?_cons_zero, Option.getD_some]
       refine Lcl.wpCalm_t ?_
       repeat (go_big_quiet_step (rfl))
       refine wpQuiet_nil ?_
       refine Lcl.wpCalm_f ?_
       repeat (go_big_quiet_step (rfl))
       refine wpQuiet_nil ?_
       refine Lcl.wpCalm_t ?_
       repeat (go_big_quiet_step (rfl))
       refine wpQuiet_nil ?_
       refine Lcl.wpCalm_f ?_
       repeat (go_big_quiet_step (rfl))
       refine wpQuiet_nil ?_
       refine Lcl.wpCalm_t ?_
       repeat (go_big_quiet_step (rfl))
       refine wpQuiet_nil ?_
       refine Lcl.wpCalm_nil ?_
       clear zb z0 w0 w1
       refine Lcl.wpG_run [] _ _ _ (by kernel_rfl) ?_
       simp only [List.map_cons, List.map_nil, List.getElem?_toArray, List.getElem?_cons_succ, List.getElem?_cons_zero, Option.getD_some]
       have hsn : (m.take (k + 1)).filter (inR seg) = M := by rw [HSN.out, if_neg (by simp; omega), List.append_nil]
       have HSN2 := Lib.hid hsn.symm
       have OD := Lib.hid (O.out.old FALD.out)
       have FD := Lib.hid (FF.out.tr FALD.out)
       clear hsn
       go_wp2_with fail
       go_roundw
       case rel => exact ⟨k + 1, M, by go_num, hlt, HSN2.out, OD.out, FD.out⟩
       case measure => simp [intOf]; omega
     ·skip
      refine Lcl.wp_region_calm (by kernel_rfl) [(true, [0, 1, 2, 3, 5, 6, 7]), (false, [4, 8]), (true, [9, 10, 11, 12, 13, 14, 16, 18]), (false, [15, 17, 19]), (true, [20, 21, 22])] #[0, 0, 3, 7, 15, 0, 32, 96, 224, 511, 1023, 2047, 2047, 8191, 16383, 32767, 2047, 67583, 2047, 264191, 985087, 2097151, 4194303] [0, 1, 2, 3, 4, 5, 6, 7, 8, 9, 10, 11, 12, 13, 14, 15, 16, 17, 18, 19, 20] 0 #[true, true, true, true, true, true, true, true, true, true, true, true, true, true, true, true, true, true, true, true, true, true, true] (by kernel_rfl) (by kernel_rfl) (by kernel_rfl) (fun w' => Fr (fun _ => False) W1 w') (Fr.same W1).drew (fun d c a v w h => by cases d <;> exact h) ?_
      simp only [Lcl.opsOf, List.map_cons, List.map_nil, List.getElem?_toArray, List.getElem?_cons_succ, List.getElem?_cons_zero, Option.getD_some]
      refine Lcl.wpCalm_t ?_
      repeat (go_big_quiet_step (rfl))
      refine wpQuiet_nil ?_
      refine Lcl.wpCalm_f ?_
      repeat (go_big_quiet_step (rfl))
      refine wpQuiet_nil ?_
      refine Lcl.wpCalm_t ?_
      repeat (go_big_quiet_step (rfl))
      refine wpQuiet_nil ?_
      refine Lcl.wpCalm_f ?_
      repeat (go_big_quiet_step (rfl))
      refine wpQuiet_nil ?_
      refine Lcl.wpCalm_t ?_
      repeat (go_big_quiet_step (rfl))
      refine wpQuiet_nil ?_
      refine Lcl.wpCalm_nil ?_
      clear zb z0 w0 w1
      refine Lcl.wpG_run [] _ _ _ (by kernel_rfl) ?_
      simp only [List.map_cons, List.map_nil, List.getElem?_toArray, List.getElem?_cons_succ, List.getElem?_cons_zero, Option.getD_some]
      have hsn : (m.take (k + 1)).filter (inR seg) = M := by rw [HSN.out, if_neg (by simp; omega), List.append_nil]
      have HSN2 := Lib.hid hsn.symm
      have OD := Lib.hid (O.out.old FALD.out)
      have FD := Lib.hid (FF.out.tr FALD.out)
      clear hsn
      go_wp2_with fail
      go_roundw
      case rel => exact ⟨k + 1, M, by go_num, hlt, HSN2.out, OD.out, FD.out⟩
      case measure => simp [intOf]; omega
    ·obtain rfl : k = m.length := by omega
     have htk : M = m.filter (inR seg) := by rw [HMM.out, List.take_length]
     have hres : insideL m seg = if M = [] then seg else M := by unfold insideL; rw [← htk]
     have HRES := Lib.hid hres
     clear htk hres
     have hr := O.out.reads (K' := fun _ => True) (fun _ _ _ => trivial) fun _ _ _ => trivial
     by_cases hM0 : M.length = 0
     ·have hMn : M = [] := List.eq_nil_of_length_eq_zero hM0
      have HR := Lib.hid (show insideL m seg = seg by rw [HRES.out, if_pos hMn])
      clear hMn hr
      go_wp2_with fail
      go_ret
      rw [HR.out]
      refine ⟨some A0, bcap, ?_, ?_, FF.out⟩
      ·rw [← HN.out]; rfl
      ·rw [← HN.out]; exact (R1.out.old FF.out).mono fun _ _ _ => trivial
     ·have hMn : M ≠ [] := fun e => hM0 (by rw [e]; rfl)
      have HR := Lib.hid (show insideL m seg = M by rw [HRES.out, if_neg hMn])
      have HRR := Lib.hid hr
      clear hMn hr
      go_wp2_with fail
      go_ret
      rw [HR.out]
      exact ⟨oo, ocap, rfl, HRR.out, FF.out⟩
end
end Go.Proofs.YtdlnafhhkpklmaaGreatDoor
