/- A log is filled; the batches of its segments: the walks. -/
import Derived.Test.YtdlnafhhkpklmaaGreatDoorY46
namespace Go.Proofs.YtdlnafhhkpklmaaGreatDoor
open Go.RowKit Go.Fm Go.BigFrame Go.Shelf Go.Maps
set_option linter.unusedVariables false
set_option linter.unusedSimpArgs false
set_option maxRecDepth 100000
section
variable {B : Nat} {w w' w1 w2 : World} {lb db mb : Nat} {p : ByteArray} {lim ev : Nat} {beg : Int} {es : List PE} {own : Bool} {L L' : List Row} {S S' : Nat → Prop} {room used fuse : Int} {F F' : ByteArray → ByteArray × Nat} {n : Nat} {ss : List Seg}
theorem last_of_safe (h : LgF p beg ss L F) (hok : DkOK room used fuse L F) (hs : SafeN p ss L F (catL ss).length) : LastSafe p ss L F := by
 intro s hl
 have hsm := snoc_last hl
 have hmem := List.mem_of_getLast? hl
 have hf := h.file s hmem
 have htot : (catL ss).length = (catL ss.dropLast).length + s.l.length := by
  conv => lhs; rw [← hsm]
  rw [catL_concat, List.length_append]
 have hle : (curF L F (nmS p s.base)).2 ≤ (curF L F (nmS p s.base)).1.size := by
  cases hg : getL L (nmS p s.base) with
  | none => rw [curF_none hg]; exact Nat.zero_le _
  | some fb => rw [curF_some hg]; exact (hok.fs _ (getL_some hg)).2
 rw [hf, catB_size] at hle
 have hge : sumB s.l ≤ (curF L F (nmS p s.base)).2 := by
  rcases hs with h1 | ⟨s', j, e, h1, h2, h3⟩
  ·have h4 : s.l.length = 0 := by omega
   rw [List.eq_nil_of_length_eq_zero h4]
   exact Nat.zero_le _
  ·rw [hl] at e
   injection e with e
   subst e
   have h4 : s.l.take j = s.l := List.take_of_length_le (by omega)
   rw [h4] at h2
   exact h2
 refine Prod.ext hf ?_
 show (curF L F (nmS p s.base)).2 = (catB s.l).size
 rw [catB_size]
 omega
/-- One batch of the caller's more, synced. -/
theorem sync_append {b : Bat} (D : LogD B w lb db mb p lim ev 0 es true L S room used (-1) F n) (hn : n < 699) (hroom : used + 16068 ≤ room) (hsm : SmallB b) (hst : StepsOK w) (K : Nat → Prop) (hK : ∀ k, K k → ¬ S k ∧ ¬ DkS db mb L k) (v : Value) (hr : RecsR K w v b.recs) (hls : LastSafe p (segsOf es) L F) (hne : ∀ s ∈ segsOf es, s.l ≠ []) (hsb : ∀ b ∈ catE es, SmallB b) :
  Calls Tryz.prog 13 #[.pointer (some ⟨lb, 0, none⟩), batV b v, .bool true] w fun e w' => ∃ N C es' L' S' F' used', e = .returned (.tuple #[.int .i64 N, .int .i64 C]) ∧ LogD B w' lb db mb p lim ev 0 es' true L' S' room used' (-1) F' (n + 2) ∧ used' ≤ used + 16068 ∧
   LastSafe p (segsOf es') L' F' ∧ (∀ s ∈ segsOf es', s.l ≠ []) ∧ (∀ b ∈ catE es', SmallB b) ∧ (catE es').length ≤ (catE es).length + 1 ∧ es'.length ≤ es.length + 1 ∧ Foot db mb w w' S L S' L' ∧ Fr (fun i => S i ∨ DkS db mb L i) w w' := by
 refine (lapp D hn hst K hK b v hr true).mono ?_
 rintro e w1 ⟨c, a, es', L', S', us', fu', F', rfl, hD, hot, hsf, hfo, hfr, ha, hna, hca, -, hno, hfu, hlsy⟩
 obtain ⟨rfl, hc⟩ := hfu rfl
 by_cases hb : BatOK (baseB b (lgEnd 0 es))
 ·have hsz : bsz (baseB b (lgEnd 0 es)) ≤ 16068 := bsz_small hb (hsm.recs_eq rfl)
  obtain rfl := hc hb (by omega)
  obtain rfl := hca rfl
  obtain ⟨h1, h2⟩ := ha rfl
  have hcat : catE es' = catE es ++ [baseB b (lgEnd 0 es)] := by
   unfold catE
   rw [h1, catL_app]
  have hapl : (appS lim ev 0 (segsOf es) (baseB b (lgEnd 0 es))).length ≤ (segsOf es).length + 1 := by
   unfold appS
   cases e : (segsOf es).getLast? with
   | none => simp
   | some y =>
    have h8 : 1 ≤ (segsOf es).length := List.length_pos_of_mem (List.mem_of_getLast? e)
    dsimp only
    split
    ·rw [List.length_append]; simp
    ·rw [List.length_append, List.length_dropLast]; simp <;> omega
  refine ⟨_, _, es', L', S', F', us', rfl, hD, by omega, hlsy rfl rfl, ?_, ?_, by rw [hcat, List.length_append]; simp, ?_, hfo, hfr⟩
  ·rw [h1]
   intro s hs
   unfold appS at hs
   cases e : (segsOf es).getLast? with
   | none =>
    rw [e] at hs
    obtain rfl : s = _ := by simpa using hs
    simp
   | some y =>
    rw [e] at hs
    dsimp only at hs
    split at hs
    ·rcases List.mem_append.1 hs with hs | hs
     ·exact hne s hs
     ·obtain rfl : s = _ := by simpa using hs
      simp
    ·rcases List.mem_append.1 hs with hs | hs
     ·exact hne s ((List.dropLast_sublist _).subset hs)
     ·obtain rfl : s = _ := by simpa using hs
      simp [Seg.push]
  ·rw [hcat]
   intro x hx
   rcases List.mem_append.1 hx with hx | hx
   ·exact hsb x hx
   ·obtain rfl : x = _ := by simpa using hx
    exact hsm.recs_eq rfl
  ·rw [← h1] at hapl
   unfold segsOf at hapl
   rw [List.length_map, List.length_map] at hapl
   exact hapl
 ·obtain ⟨rfl, hse⟩ := hno hb
  have ha0 : a = false := by
   cases a with
   | false => rfl
   | true =>
    obtain ⟨h1, -⟩ := ha rfl
    refine absurd (hD.cat_ok _ ?_) hb
    unfold catE
    rw [h1, catL_app]
    simp
  subst ha0
  obtain ⟨h1, h2, h3⟩ := hna rfl
  have hc2 : catE es' = catE es := h1
  have hl : es'.length = es.length := by
   have := congrArg List.length hse
   unfold segsOf at this
   rwa [List.length_map, List.length_map] at this
  refine ⟨_, _, es', L', S', F', us', rfl, hD, by omega, ?_, by rw [hse]; exact hne, by rw [hc2]; exact hsb, by rw [hc2]; omega, by omega, hfo, hfr⟩
  have h5 := hsf _ (SafeN.all hls (Nat.le_refl _))
  rw [hse] at h5 ⊢
  have hfl := hD.fl
  rw [hse] at hfl
  exact last_of_safe hfl hD.ok h5
/-- A log that has been filled. -/
structure FillD (B : Nat) (w : World) (lb db mb lim k : Nat) (es : List PE) (L : List Row) (S : Nat → Prop) (used : Int) (F : ByteArray → ByteArray × Nat) : Prop where
 d : LogD B w lb db mb pS lim 20 0 es true L S 400000 used (-1) F (2 * k)
 us : used ≤ 16068 * k
 ls : LastSafe pS (segsOf es) L F
 ne : ∀ s ∈ segsOf es, s.l ≠ []
 sm : ∀ b ∈ catE es, SmallB b
 len : (catE es).length ≤ k
 el : es.length ≤ k
theorem FillD.old {k : Nat} (h : FillD B w lb db mb lim k es L S used F) (hf : Fr (fun _ => False) w w') : FillD B w' lb db mb lim k es L S used F := ⟨h.d.old hf, h.us, h.ls, h.ne, h.sm, h.len, h.el⟩
def logV (v : Value) (lm be fu : Int) (kv : Value) : Value := .agg #[v, .int .i64 lm, .int .i64 be, .int .i64 fu, kv]
def FilledPost (B : Nat) (w : World) (db mb lim k : Nat) (e : Ending) (w' : World) : Prop :=
 ∃ lb es L S used F, e = .returned (.tuple #[.pointer (some ⟨lb, 0, none⟩), .bool true]) ∧ FillD B w' lb db mb lim k es L S used F ∧ Fr (fun i => i = db ∨ i = mb) w w' ∧ (∀ i, S i → w.heap.size ≤ i) ∧ ∀ i, DkS db mb L i → i = db ∨ i = mb ∨ w.heap.size ≤ i
set_option maxHeartbeats 16000000 in
theorem filled_walk (l : List Bat) (oa : Option Addr) (cap lim : Nat) (be fu : Int) (ka : Option Addr) (kl kc : Nat) (w : World) (hl : BatsR (fun b => b < B) w (.slice oa l.length cap) l) (hfew : Few l) (hdn : DkN w db mb 400000 0 [] F) (hB1 : 1 ≤ B) (hdb : B ≤ db) (hmb : B ≤ mb) (l1 : 50 ≤ lim) (l2 : lim ≤ 1000000) (hst : StepsOK w) :
  Calls Tryz.prog 29 #[.pointer (some ⟨db, 0, none⟩), logV (.slice oa l.length cap) lim be fu (.slice ka kl kc)] w (FilledPost B w db mb lim l.length) := by
 have hdl := hdn.dk.lt (.inl rfl)
 have hml := hdn.dk.lt (.inr (.inl rfl))
 unfold logV
 have hfa := (Fr.same w).alloc (.cells #[.slice oa l.length cap, .int .i64 lim, .int .i64 be, .int .i64 fu, .slice ka kl kc] 62)
 have hsa : (w.alloc (.cells #[.slice oa l.length cap, .int .i64 lim, .int .i64 be, .int .i64 fu, .slice ka kl kc] 62)).heap.size = w.heap.size + 1 := by simp
 have q0 := cell_alloc_new w #[.slice oa l.length cap, .int .i64 lim, .int .i64 be, .int .i64 fu, .slice ka kl kc] 62 0
 have hl2 := hl.old hfa
 obtain ⟨oa2, cap2, e2, hl4⟩ := hl2
 injection e2 with e2 _ e3
 subst e2 e3
 have hpo := popen_new (B := B) (p := pS) (lim := lim) (ev := 20) (hdn.old hfa) (by omega) hB1 hdb hmb (by decide) (by decide) l1 l2 (by omega) (by omega) (hst.old hfa)
 unfold cfgV pS at hpo
 have HPO := Lib.hid hpo
 have HL := Lib.hid hl4
 have HF := Lib.hid hfew
 have HST := Lib.hid (hst.old hfa)
 have FA := Lib.hid hfa
 have SA := Lib.hid hsa
 have HB := Lib.hid (And.intro hB1 (And.intro hdb (And.intro hmb (And.intro hdl hml))))
 have Q0 := Lib.hid q0
 have hlen := hfew.len
 clear hl hl4 hdn hst hpo hfa hsa q0 hfew hB1 hdb hmb hdl hml
 go_enter Tryz.func29, Tryz.ntmps29
 go_wp2_with fail
 generalize (w.alloc (.cells #[.slice oa l.length cap, .int .i64 lim, .int .i64 be, .int .i64 fu, .slice ka kl kc] 62)) = W at *
 refine HPO.out.mono ?_
 rintro e w2 ⟨lb, S2, F2, rfl, hD, hS, hf2⟩
 have M2 := Lib.hid (show FillD B w2 lb db mb lim 0 [] [] S2 0 F2 from ⟨hD, by omega, fun s hs => (by cases hs), fun s hs => (by cases hs), fun b hb => (by cases hb), Nat.le_refl _, Nat.le_refl _⟩)
 have FF2 := Lib.hid hf2
 have SS2 := Lib.hid hS
 clear hD hS hf2 HPO
 go_wp2_with fail
 go_loopw [8] (fun i wr => ∃ (k : Nat) (es : List PE) (L : List Row) (S : Nat → Prop) (used : Int) (F : ByteArray → ByteArray × Nat), i = .int .i64 k ∧ k ≤ l.length ∧ FillD B wr lb db mb lim k es L S used F ∧ Fr (fun i => i = db ∨ i = mb) W wr ∧ (∀ i, S i → W.heap.size ≤ i) ∧ ∀ i, DkS db mb L i → i = db ∨ i = mb ∨ W.heap.size ≤ i) (fun i _ => l.length - (intOf i).toNat)
 case atStart => exact ⟨0, [], [], S2, 0, F2, rfl, Nat.zero_le _, M2.out, FF2.out, SS2.out, fun i hi => by
  rcases hi with hi | hi | ⟨r, hr, -⟩
  ·exact .inl hi
  ·exact .inr (.inl hi)
  ·cases hr⟩
 case round =>
  obtain ⟨k, es, L, S, used, F, rfl, hk, hm, hf, hS, hD⟩ := hrel
  have M := Lib.hid hm
  have FF := Lib.hid hf
  have SD := Lib.hid (And.intro hS hD)
  have q0 := FF.out.cell Q0.out (fun h => by have := HB.out; rcases h with h | h <;> (have h2 : w.heap.size = _ := h; omega))
  clear hm hf hS hD M2 FF2 SS2
  rcases Nat.lt_or_ge k l.length with hlt | hge
  ·obtain ⟨b, hb⟩ := get_of_lt hlt
   obtain ⟨A, rv, rfl, hA, hc, hr⟩ := HL.out k b hb
   have hbl : ∀ i, i < B → ¬ (i = db ∨ i = mb) := fun i hi h => by have := HB.out; omega
   obtain ⟨c0, c1, c2, c3, c4, c5⟩ := hc.to (FF.out.block _ hc.lt (hbl _ (by rw [add_block]; exact hA)))
   have hr1 := hr.fr FF.out fun i hi => hbl i hi
   have hh := hr1
   obtain ⟨ra, rcap, rfl, -⟩ := hh
   have hHF := (HF.out.bats b (List.mem_of_getElem? hb)).small
   have hap := sync_append M.out.d (by omega) (by have := M.out.us; omega) hHF (HST.out.fr FF.out fun h => by have := HB.out; omega) _ (fun i (hi : i < B) => ⟨fun h => by have := SD.out.1 i h; have := SA.out; have := HB.out; omega, fun h => by have := SD.out.2 i h; have := SA.out; have := HB.out; omega⟩) _ hr1 M.out.ls M.out.ne M.out.sm
   have HAP := Lib.hid hap
   unfold batV at HAP
   clear hb hc hr hr1 hHF hap
   go_wp2_with fail
   refine HAP.out.mono ?_
   rintro e w5 ⟨N, C, es', L', S', F', used', rfl, hD5, hu5, hls5, hne5, hsm5, hlen5, hel5, hfo5, hfr5⟩
   have M5 := Lib.hid (show FillD B w5 lb db mb lim (k + 1) es' L' S' used' F' from ⟨hD5, by have := M.out.us; omega, hls5, hne5, hsm5, by have := M.out.len; omega, by have := M.out.el; omega⟩)
   have FF5 := Lib.hid (FF.out.trans hfr5 fun i hi => by
    rcases hi with hi | hi
    ·exact .inr (SD.out.1 i hi)
    ·rcases SD.out.2 i hi with h | h | h
     ·exact .inl (.inl h)
     ·exact .inl (.inr h)
     ·exact .inr h)
   have hszF := FF.out.size
   have SD5 := Lib.hid (And.intro (fun i (hi : S' i) => (hfo5.1 i hi).elim (SD.out.1 i) fun h => Nat.le_trans hszF h.1) (fun i (hi : DkS db mb L' i) => (hfo5.2 i hi).elim (SD.out.2 i) fun h => .inr (.inr (Nat.le_trans hszF h.1))))
   clear hD5 hu5 hls5 hne5 hsm5 hlen5 hel5 hfo5 hfr5 HAP c0 c1 c2 c3 c4 c5
   go_wp2_with fail
   go_roundw
   case rel => exact ⟨k + 1, es', L', S', used', F', by go_num, hlt, M5.out, FF5.out, SD5.out.1, SD5.out.2⟩
   case measure => simp [intOf]; omega
  ·obtain rfl : k = l.length := by omega
   go_wp2_with fail
   go_ret2
   refine ⟨lb, es, L, S, used, F, rfl, M.out, (FA.out.mono (S' := fun i => i = db ∨ i = mb) fun i h => h.elim).trans FF.out fun i hi => .inl hi, fun i hi => ?_, fun i hi => ?_⟩
   ·have := SD.out.1 i hi; have := SA.out; omega
   ·rcases SD.out.2 i hi with h | h | h
    ·exact .inl h
    ·exact .inr (.inl h)
    ·exact .inr (.inr (by have := SA.out; omega))
end
end Go.Proofs.YtdlnafhhkpklmaaGreatDoor
/- The batches of all segments; those of some that stand in a segment: the walks. -/
namespace Go.Proofs.YtdlnafhhkpklmaaGreatDoor
open Go.RowKit Go.Fm Go.BigFrame Go.Shelf Go.Maps
set_option linter.unusedVariables false
set_option linter.unusedSimpArgs false
set_option maxRecDepth 100000
section
variable {B : Nat} {w w' w1 w2 : World} {lb db mb : Nat} {p : ByteArray} {lim ev : Nat} {beg : Int} {es : List PE} {own : Bool} {L L' : List Row} {S S' : Nat → Prop} {room used fuse : Int} {F F' : ByteArray → ByteArray × Nat} {n : Nat} {ss : List Seg}
def listsOf (es : List PE) : List (List Bat) := es.map fun e => e.s.l
/-- What Segment tells of a log whose segments are small. -/
theorem lseg_all (h : Lg B w lb db mb p lim ev beg es own L S) (k : Nat) : Calls Tryz.prog 16 #[.pointer (some ⟨lb, 0, none⟩), .int .i64 k] w fun e w' =>
  (∃ l, (listsOf es)[k]? = some l ∧ ∃ oa cap, e = .returned (.tuple #[.slice oa l.length cap, .bool true]) ∧ BatsR (fun b => w.heap.size ≤ b) w' (.slice oa l.length cap) l ∧ Fr (fun _ => False) w w') ∨ (es.length ≤ k ∧ e = .returned (.tuple #[.slice none 0 0, .bool false]) ∧ Fr (fun _ => False) w w') := by
 have hsg := fun e he => h.seg (e := e) he
 refine (lsegment_walk h k).mono ?_
 rintro e w1 ⟨v, ok, rfl, hok, hno, hyes, hf⟩
 cases ok with
 | false =>
  right
  refine ⟨?_, by rw [hno rfl], hf⟩
  rcases Nat.lt_or_ge k es.length with h1 | h1
  ·have := hok.2 ⟨by omega, by omega⟩
   cases this
  ·exact h1
 | true =>
  left
  obtain ⟨h1, h2⟩ := hok.1 rfl
  obtain ⟨x, hx⟩ := get_of_lt (show k < es.length by omega)
  have h3 := hyes x rfl (by simpa using hx)
  have hS := (hsg x (List.mem_of_getElem? hx)).ok
  have hpk : pick 0 1099511627776 x.s.l 0 [] = x.s.l := by
   rw [pick_all 0 1099511627776 x.s.l 0 [] (fun b hb => by have := (hS.ch.ok b hb).1.base0; have := (hS.ch.ok b hb).1.span0; omega) (by have := hS.sum; omega), List.nil_append]
  rw [hpk] at h3
  have h4 := h3
  obtain ⟨oa, cap, rfl, -⟩ := h4
  exact ⟨x.s.l, by unfold listsOf; rw [List.getElem?_map, hx]; rfl, oa, cap, rfl, h3, hf⟩
/-- Those of some that stand in a segment; the segment's, if there are none. -/
def insideL (some' seg : List Bat) : List Bat := if some'.filter (inR seg) = [] then seg else some'.filter (inR seg)
end
end Go.Proofs.YtdlnafhhkpklmaaGreatDoor
