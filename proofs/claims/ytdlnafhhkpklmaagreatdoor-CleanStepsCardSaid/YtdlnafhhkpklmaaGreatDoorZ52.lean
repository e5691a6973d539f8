/- CleanSteps: the walk. -/
import Derived.Test.YtdlnafhhkpklmaaGreatDoorZ51
namespace Go.Proofs.YtdlnafhhkpklmaaGreatDoor
open Go.RowKit Go.Fm Go.BigFrame Go.Shelf Go.Maps
set_option linter.unusedVariables false
set_option linter.unusedSimpArgs false
set_option maxRecDepth 100000
section
variable {B : Nat} {w w' w1 w2 W wr : World} {lb db mb cb lim : Nat} {p : ByteArray} {ev : Nat} {beg : Int} {es : List PE} {own : Bool} {L L' L0 : List Row} {S S' S0 : Nat → Prop} {room used fuse : Int} {F F' : ByteArray → ByteArray × Nat} {n j : Nat} {ss : List Seg} {lf : List (List Bat)} {s : Seg} {l : List Bat}
structure LogAt (w : World) (pb : Nat) (v : Value) (lm be fu : Int) (kv : Value) : Prop where
 a0 : w.cell? ⟨pb, 0, none⟩ = some v
 a1 : w.cell? ⟨pb, 1, none⟩ = some (.int .i64 lm)
 a2 : w.cell? ⟨pb, 2, none⟩ = some (.int .i64 be)
 a3 : w.cell? ⟨pb, 3, none⟩ = some (.int .i64 fu)
 a4 : w.cell? ⟨pb, 4, none⟩ = some kv
theorem LogAt.old {pb : Nat} {v kv : Value} {lm be fu : Int} (h : LogAt w pb v lm be fu kv) (hf : Fr (fun _ => False) w w') : LogAt w' pb v lm be fu kv :=
 ⟨hf.cel h.a0, hf.cel h.a1, hf.cel h.a2, hf.cel h.a3, hf.cel h.a4⟩
theorem FillD.rows {k : Nat} (h : FillD B w lb db mb lim k es L S used F) : Rows (segsOf es) :=
 ⟨cat_rise h.d.fl.rise fun s hs => h.d.chn hs, h.d.cat_ok, fun s hs => h.d.chn hs, h.ne⟩
theorem FillD.good {k : Nat} (h : FillD B w lb db mb lim k es L S used F) (hk : k ≤ 8) : GoodL (catE es) :=
 ⟨Nat.le_trans h.len hk, fun b hb => ok_goodB (h.d.cat_ok b hb)⟩
theorem sum_small : ∀ {l : List Bat}, (∀ b ∈ l, BatOK b ∧ SmallB b) → sumB l ≤ 16068 * l.length
 | [], _ => Nat.le_refl _
 | b :: l, h => by
  have ih := sum_small (l := l) fun x hx => h x (List.mem_cons_of_mem _ hx)
  have h1 := h b List.mem_cons_self
  have h2 := bsz_small h1.1 h1.2
  rw [sumB_cons, List.length_cons]
  omega
/-- Where the batches of a segment end, told as far as the k-th of them. -/
def upK (U : Int) (l : List Bat) (k : Nat) : Int := if k = 0 then U else endL (l.take k)
theorem upK_next {U : Int} {k : Nat} {b : Bat} (h : l[k]? = some b) : upK U l (k + 1) = b.base + b.span := by
 unfold upK
 rw [if_neg (by omega), take_snoc' h, endL_snoc]
theorem Rows.want {es es' : List PE} {lf : List (List Bat)} (R : Rows (segsOf es)) (be : Int) (hlf : lf = leftsL (listsOf es) (catE es) be) (hlen : lf.length = es.length - 1) (hsg : segsOf es' = updN (segsOf es) lf lf.length) {k : Nat} {x : List Bat} (hx : (listsOf es)[k]? = some x) : (listsOf es')[k]? = some (insideL (cleanedL (catE es) (uptoF ((listsOf es).take lf.length)) be) x) := by
 have hsl : (segsOf es).length = es.length := by unfold segsOf; rw [List.length_map]
 rw [lists_segs es] at hx hlf ⊢
 rw [List.getElem?_map, Option.map_eq_some_iff] at hx
 obtain ⟨s, hs, rfl⟩ := hx
 obtain ⟨t, ht, -, hl⟩ := R.final be hs
 have ht' : (updN (segsOf es) lf lf.length)[k]? = some t := by
  rw [hlen, ← hsl, hlf]
  exact ht
 rw [lists_segs es', hsg, List.getElem?_map, ht', hlen, ← hsl]
 exact congrArg some hl
theorem Rows.upk (R : Rows (segsOf es)) {k : Nat} {x : List Bat} (hx : (listsOf es)[k]? = some x) (U : Int) : upK U x x.length = uptoF ((listsOf es).take (k + 1)) ∧ ∀ b ∈ x, BatOK b := by
 rw [lists_segs] at hx ⊢
 rw [List.getElem?_map, Option.map_eq_some_iff] at hx
 obtain ⟨s, hs, rfl⟩ := hx
 have hne := R.ne s (List.mem_of_getElem? hs)
 refine ⟨?_, fun b hb => R.ok b (mem_cat (List.mem_of_getElem? hs) hb)⟩
 rw [R.upto_next hs]
 unfold upK
 rw [if_neg fun h => hne (List.eq_nil_of_length_eq_zero h), List.take_length]
theorem cleaned_ok {all : List Bat} {U be : Int} (h : ∀ b ∈ all, BatOK b) : ∀ b ∈ cleanedL all U be, BatOK b := fun b hb => by
 obtain ⟨i, x, hx, rfl⟩ := cleanTo_mem hb
 exact ok_sub (h x (List.mem_of_getElem? hx)) (keptOf_sub i x)
theorem cleaned_len (all : List Bat) (U be : Int) : (cleanedL all U be).length ≤ all.length := cleanTo_len _ _ _ _ _ _
theorem inside_or {m seg : List Bat} {b : Bat} (h : b ∈ insideL m seg) : b ∈ m ∨ b ∈ seg := by
 unfold insideL at h
 split at h
 ·exact .inr h
 ·exact .inl (List.mem_filter.1 h).1
theorem inside_len (m seg : List Bat) : (insideL m seg).length ≤ m.length ∨ (insideL m seg).length ≤ seg.length := by
 unfold insideL
 split
 ·exact .inr (Nat.le_refl _)
 ·exact .inl (List.length_filter_le _ _)
set_option maxHeartbeats 64000000 in
theorem csteps_walk (l : List Bat) (v : Value) (lm be fu : Int) (ks : List Int) (kv : Value) (w : World) (hl : BatsR (fun _ => True) w v l) (hk : IntsR w kv ks) (hst : StepsOK w) (hw0 : 1 ≤ w.heap.size) :
  Calls Tryz.prog 7 #[logV v lm be fu kv] w fun e w' => e = .returned (.bool true) ∧ Fr (fun _ => False) w w' := by
 have hl2 := hl.mono (K' := fun b => b < w.heap.size) fun b _ h => h
 clear hl
 obtain ⟨oa, cap, rfl, hl3⟩ := hl2
 obtain ⟨ka, kc, rfl, hk3⟩ := hk
 obtain ⟨kl, hkl⟩ : ∃ kl, kl = ks.length := ⟨_, rfl⟩
 rw [← hkl]
 clear hk3 hkl
 unfold logV
 have hfa := (Fr.same w).alloc (.cells #[.slice oa l.length cap, .int .i64 lm, .int .i64 be, .int .i64 fu, .slice ka kl kc] 62)
 have hta : LogAt (w.alloc (.cells #[.slice oa l.length cap, .int .i64 lm, .int .i64 be, .int .i64 fu, .slice ka kl kc] 62)) w.heap.size (.slice oa l.length cap) lm be fu (.slice ka kl kc) :=
  ⟨cell_alloc_new w _ 62 0, cell_alloc_new w _ 62 1, cell_alloc_new w _ 62 2, cell_alloc_new w _ 62 3, cell_alloc_new w _ 62 4⟩
 have HL := Lib.hid (show BatsR (fun b => b < w.heap.size) (w.alloc (.cells #[.slice oa l.length cap, .int .i64 lm, .int .i64 be, .int .i64 fu, .slice ka kl kc] 62)) (.slice oa l.length cap) l from BatsR.old ⟨oa, cap, rfl, hl3⟩ hfa)
 have HST := Lib.hid (hst.old hfa)
 have TA := Lib.hid hta
 have FA := Lib.hid hfa
 have SA := Lib.hid (show (w.alloc (.cells #[.slice oa l.length cap, .int .i64 lm, .int .i64 be, .int .i64 fu, .slice ka kl kc] 62)).heap.size = w.heap.size + 1 by simp)
 have HFEW := Lib.hid (few_walk _ l _ _ HL.out)
 clear hl3 hst hfa hta
 go_enter Tryz.func7, Tryz.ntmps7
 go_wp2_with fail
 generalize (w.alloc (.cells #[.slice oa l.length cap, .int .i64 lm, .int .i64 be, .int .i64 fu, .slice ka kl kc] 62)) = W0 at *
 refine HFEW.out.mono ?_
 rintro e w1 ⟨c, rfl, hfew, hf1⟩
 have F1 := Lib.hid hf1
 have hcf : c = true → Few l := hfew
 have HCF := Lib.hid hcf
 obtain ⟨q0, q1, q2, q3, q4⟩ := TA.out.old F1.out
 clear hfew hf1 hcf HFEW
 by_cases hbad : c = false ∨ lm < 50 ∨ 1000000 < lm
 ·have h3 : c = false ∨ (c = true ∧ lm < 50) ∨ (c = true ∧ 50 ≤ lm ∧ 1000000 < lm) := by
   cases c
   ·exact .inl rfl
   ·rcases hbad with h | h | h
    ·cases h
    ·exact .inr (.inl ⟨rfl, h⟩)
    ·by_cases h5 : lm < 50
     ·exact .inr (.inl ⟨rfl, h5⟩)
     ·exact .inr (.inr ⟨rfl, by omega, h⟩)
  clear hbad
  rcases h3 with rfl | ⟨rfl, h8⟩ | ⟨rfl, h8, h9⟩
  all_goals
   go_wp2_with fail
   refine (live_walk _).mono ?_
   rintro e w4 ⟨rfl, hf4⟩
   have F4 := Lib.hid ((FA.out.tr F1.out).tr hf4)
   clear hf4
   go_wp2_with fail
   go_ret
   exact ⟨rfl, F4.out⟩
 ·obtain rfl : c = true := by cases c <;> simp_all
  have hl50 : 50 ≤ lm := by omega
  have hlM : lm ≤ 1000000 := by omega
  obtain ⟨lim, rfl⟩ : ∃ n : Nat, lm = (n : Int) := ⟨lm.toNat, by omega⟩
  have LIM := Lib.hid (show 50 ≤ lim ∧ lim ≤ 1000000 by omega)
  have n50 : ¬ (lim : Int) < 50 := by omega
  have nM : ¬ (1000000 : Int) < lim := by omega
  have HFW := Lib.hid (HCF.out rfl)
  have hlen := HFW.out.len
  clear hbad hl50 hlM HCF
  go_wp2_with fail
  clear n50 nM
  refine (dnew_n 400000 w1 (by omega) (by omega)).mono ?_
  rintro e w2 ⟨db, mb, rfl, hdn, hdb, hmb, hf2⟩
  have hs1 := F1.out.size
  have F2 := Lib.hid (F1.out.tr hf2)
  have HB := Lib.hid (show W0.heap.size ≤ db ∧ W0.heap.size ≤ mb by omega)
  have hfil := filled_walk (B := W0.heap.size) l oa cap lim be fu ka kl kc w2 ((HL.out.old F2.out).mono fun b hb _ => by have h8 : b < w.heap.size := hb; have := SA.out; omega) HFW.out hdn (by have := SA.out; omega) HB.out.1 HB.out.2 LIM.out.1 LIM.out.2 (HST.out.old F2.out)
  unfold logV at hfil
  have HFIL := Lib.hid hfil
  obtain ⟨q0, q1, q2, q3, q4⟩ := TA.out.old F2.out
  clear hdb hmb hdn hf2 hfil hs1
  go_wp2_with fail
  refine HFIL.out.mono ?_
  rintro e w4 ⟨lb, es, L, S, used, F, rfl, hm, hf4, hS, hD⟩
  have M4 := Lib.hid hm
  have F4 := Lib.hid (F2.out.trans hf4 fun i hi => .inr (by have := HB.out; rcases hi with h | h <;> (have h2 : i = _ := h; omega)))
  have R := Lib.hid hm.rows
  have HG := Lib.hid (hm.good hlen)
  have hsum : sumB (catE es) ≤ 130000 := by
   have h1 := sum_small (l := catE es) fun b hb => ⟨hm.d.cat_ok b hb, hm.sm b hb⟩
   have h2 := hm.len
   omega
  have HSUM := Lib.hid hsum
  have EL := Lib.hid (show es.length ≤ 8 from Nat.le_trans hm.el hlen)
  have CL := Lib.hid (show (catE es).length ≤ 8 from Nat.le_trans hm.len hlen)
  have HRD := Lib.hid (lread_walk hm.d (HST.out.old F4.out) 0 1000000)
  clear hm hf4 hS hD HFIL q0 q1 q2 q3 q4 hsum
  obtain ⟨q0, q1, q2, q3, q4⟩ := TA.out.old F4.out
  go_wp2_with fail
  refine HRD.out.mono ?_
  rintro e w5 hp
  have hpk : pick 0 1000000 (catE es) 0 [] = catE es := by
   rw [pick_all 0 1000000 (catE es) 0 [] (fun b hb => by have := (M4.out.d.cat_ok b hb).base0; have := (M4.out.d.cat_ok b hb).span0; omega) (by have := HSUM.out; omega), List.nil_append]
  have hp' : ∃ oa1 cap1, e = .returned (.tuple #[.slice oa1 (catE es).length cap1, .int .i64 0]) ∧ BatsR (fun b => w4.heap.size ≤ b) w5 (.slice oa1 (catE es).length cap1) (catE es) ∧ Fr (fun _ => False) w4 w5 := by
   rcases hp with ⟨h, -⟩ | ⟨-, -, v, rfl, hv, hcap, hf⟩
   ·exfalso
    have := M4.out.d.be
    omega
   ·rw [hpk] at hv
    have hv2 := hv
    obtain ⟨oa1, cap1, rfl, -⟩ := hv2
    exact ⟨oa1, cap1, rfl, hv, hf⟩
  obtain ⟨oa1, cap1, rfl, hv5, hf5⟩ := hp'
  have M5 := Lib.hid (M4.out.old hf5)
  have F5 := Lib.hid (F4.out.tr hf5)
  have V5 := Lib.hid (hv5.mono (K' := fun b => w4.heap.size ≤ b ∧ b < w5.heap.size) fun b h hl => ⟨h, hl⟩)
  have SLT := Lib.hid (fun i (h : S i ∨ DkS db mb L i) => (M4.out.d.lt h).2)
  have s45 := hf5.size
  have HNEW := Lib.hid (cnew_walk M5.out.d (HST.out.old F5.out) HG.out (by have := EL.out; omega) (fun l' hl' => by
   rw [lists_segs] at hl'
   obtain ⟨s, hs, rfl⟩ := List.mem_map.1 hl'
   exact M5.out.ne s hs) (by have := HSUM.out; omega) be)
  clear hp hpk hv5 hf5 HRD q0 q1 q2 q3 q4
  obtain ⟨q0, q1, q2, q3, q4⟩ := TA.out.old F5.out
  go_wp2_with fail
  refine HNEW.out.mono ?_
  rintro e w6 ⟨cb, vl, rfl, hcl, hcb, hf6⟩
  have M6 := Lib.hid (M5.out.old hf6)
  have F6 := Lib.hid (F5.out.tr hf6)
  have V6 := Lib.hid (V5.out.old hf6)
  have CLA := Lib.hid hcl
  have HCB := Lib.hid (show w5.heap.size ≤ cb from hcb)
  have HSG := Lib.hid (segments_walk M6.out.d.lg (by have := EL.out; omega))
  clear hcl hcb hf6 HNEW q0 q1 q2 q3 q4
  go_wp2_with fail
  refine HSG.out.mono ?_
  rintro e w7 ⟨vw, rfl, hvw, hf7⟩
  have M7 := Lib.hid (M6.out.old hf7)
  have F7 := Lib.hid (F6.out.tr hf7)
  have V7 := Lib.hid (V6.out.old hf7)
  have XW := Lib.hid ((hf7.block cb (lt_of_heap CLA.out.b) fun h => h).trans CLA.out.b)
  have hcw : cb < w7.heap.size := lt_of_heap XW.out
  have RW := Lib.hid ((CLA.out.r.mono (K' := fun b => cb < b ∧ b < w6.heap.size) fun b h hl => ⟨h, hl⟩).old hf7)
  have VW := Lib.hid (hvw.mono (K' := fun b => w6.heap.size ≤ b ∧ b < w7.heap.size) fun b h hl => ⟨h, hl⟩)
  have s67 := hf7.size
  obtain ⟨ow, wcap, hvv⟩ : ∃ ow wcap, vw = .slice ow es.length wcap := by
   obtain ⟨a, c, h, -⟩ := hvw
   exact ⟨a, c, by rw [h]; unfold listsOf; rw [List.length_map]⟩
  subst hvv
  have hcb6 : cb < w6.heap.size := lt_of_heap CLA.out.b
  obtain ⟨lf, hlf⟩ : ∃ lf, lf = leftsL (listsOf es) (catE es) be := ⟨_, rfl⟩
  have hlfl : lf.length = es.length - 1 := by rw [hlf, lefts_len]; unfold listsOf; rw [List.length_map]
  have LF := Lib.hid (And.intro hlf hlfl)
  rw [← hlf] at RW
  have hC0 : CSt W0.heap.size w7 w7 lb db mb cb lim (segsOf es) lf S L 0 es L S used (-1) F (2 * l.length) vl := by
   have hU0 : updN (segsOf es) lf 0 = segsOf es := by unfold updN updZ; simp
   refine ⟨M7.out.d, XW.out, RW.out.mono fun b (h : cb < b ∧ b < w6.heap.size) _ => ⟨h.1, by omega⟩, fun i hi => .inl (by have := SLT.out i hi; have := HCB.out; omega), hcw, by have := HCB.out; have := SA.out; have := F5.out.size; omega, hU0.symm, M7.out.ls, by have := M7.out.us; omega, by omega, Nat.zero_le _, Fr.refl _ _, fun i hi => hi.elim .inl fun h => .inr (.inl h)⟩
  have C0 := Lib.hid hC0
  have OKS := Lib.hid (show LeftOK (segsOf es) lf by rw [hlf, lists_segs]; exact R.out.left be)
  have HS8 := Lib.hid (show ∀ s ∈ segsOf es, s.l.length ≤ 8 ∧ ∀ b ∈ s.l, BatOK b from fun s hs => ⟨by have h1 := cat_mem hs; have h2 := CL.out; have h3 : (catE es).length = (catL (segsOf es)).length := rfl; omega, fun b hb => R.out.ok b (mem_cat hs hb)⟩)
  have HSS := Lib.hid (show lf = [] ∨ (segsOf es).length = lf.length + 1 by
   unfold segsOf
   rw [List.length_map]
   rcases Nat.eq_zero_or_pos es.length with h | h
   ·exact .inl (List.eq_nil_of_length_eq_zero (by omega))
   ·exact .inr (by omega))
  have hl8 : lf.length ≤ 7 := by have := EL.out; omega
  clear hvw hf7 hlf hlfl hC0 HSG RW XW CLA
  go_wp2_with fail
  go_loopw [12, 13] (fun st i wr => ∃ (j : Nat) (es' : List PE) (L' : List Row) (S' : Nat → Prop) (us' : Int) (F' : ByteArray → ByteArray × Nat), i = .int .i64 j ∧ st = .int .i64 j ∧ CSt W0.heap.size w7 wr lb db mb cb lim (segsOf es) lf S L j es' L' S' us' (-1) F' (2 * l.length) vl) (fun _ i _ => 20 - (intOf i).toNat)
  case atStart => exact ⟨0, es, L, S, used, F, rfl, rfl, C0.out⟩
  case round =>
   obtain ⟨j, es', L', S', us', F', rfl, rfl, hc⟩ := hrel
   have C := Lib.hid hc
   have hj := hc.jl
   have F7w := Lib.hid (show Fr (fun _ => False) W0 wr from F7.out.trans hc.fr fun i hi => .inr (by
    rcases hi with h | h | h
    ·have h2 : i = cb := h; have := HCB.out; have := F5.out.size; omega
    ·have := (M4.out.d.lt (.inl h)).1; exact this
    ·have := (M4.out.d.lt (.inr h)).1; exact this))
   have HSTP := Lib.hid (cstep_walk hc (HST.out.old F7w.out) HSS.out (by omega) R.out.ne HS8.out OKS.out)
   clear hc C0
   have hj20 : (j : Int) < 20 := by omega
   go_wp2_with fail
   refine HSTP.out.mono ?_
   rintro e w8 hp
   rcases hp with ⟨hjn, rfl, hc8⟩ | ⟨hjn, rfl, es8, L8, S8, us8, fu8, F8, hc8, hfu8⟩ | ⟨-, hfu8, -⟩
   ·have C8 := Lib.hid hc8
    have hfr := hc8.fr
    obtain ⟨aw, cw8, e8, -, hel⟩ := (VW.out.fr hfr fun i (hi : w6.heap.size ≤ i ∧ i < w7.heap.size) h => by
     rcases h with h | h | h
     ·have h2 : i = cb := h; omega
     ·have := SLT.out i (.inl h); have := HCB.out; omega
     ·have := SLT.out i (.inr h); have := HCB.out; omega)
    injection e8 with e8 eL e9
    clear eL
    subst e8 e9
    have VA := Lib.hid (V7.out.fr hfr fun i (hi : w4.heap.size ≤ i ∧ i < w5.heap.size) h => by
     rcases h with h | h | h
     ·have h2 : i = cb := h; have := HCB.out; omega
     ·have := SLT.out i (.inl h); omega
     ·have := SLT.out i (.inr h); omega)
    have HEL := Lib.hid hel
    have F8 := Lib.hid (show Fr (fun _ => False) W0 w8 from F7.out.trans hfr fun i hi => .inr (by
     rcases hi with h | h | h
     ·have h2 : i = cb := h; have := HCB.out; have := F5.out.size; omega
     ·have := (M4.out.d.lt (.inl h)).1; exact this
     ·have := (M4.out.d.lt (.inr h)).1; exact this))
    have hsg8 := hc8.sg
    rw [hjn] at hsg8
    have HWT := Lib.hid (fun (k : Nat) (x : List Bat) (hx : (listsOf es)[k]? = some x) => R.out.want be LF.out.1 LF.out.2 hsg8 hx)
    have HLG := Lib.hid hc8.d.lg
    have hel8 := EL.out
    have hmx : max ((es.length : Int) - 1) 0 = (lf.length : Int) := by have := LF.out.2; omega
    have hLL : (listsOf es).length = es.length := by unfold listsOf; rw [List.length_map]
    have LLL := Lib.hid hLL
    subst hjn
    clear hc8 HSTP C hj20 hfr hel hsg8 hLL
    go_wp2_with fail
    clear hmx
    go_loopw [17, 18] (fun u i wr => ∃ k : Nat, i = .int .i64 k ∧ k ≤ lf.length ∧ u = .int .i64 (uptoF ((listsOf es).take k)) ∧ Fr (fun _ => False) w8 wr) (fun _ i _ => lf.length - (intOf i).toNat)
    case atStart => exact ⟨0, rfl, Nat.zero_le _, by rw [List.take_zero]; rfl, Fr.same _⟩
    case round =>
     obtain ⟨wj, rfl⟩ : ∃ wj, wj = wr := ⟨_, rfl⟩
     obtain ⟨k, rfl, hkl, rfl, hf⟩ := hrel
     have FK := Lib.hid hf
     clear hf
     rcases Nat.lt_or_ge k lf.length with hlt | hge
     ·obtain ⟨x, hx⟩ := get_of_lt (show k < (listsOf es).length by rw [LLL.out]; have := LF.out.2; omega)
      have hke : k < es.length := by have := LF.out.2; omega
      obtain ⟨a, bv, rfl, -, hcell, hbr⟩ := HEL.out k x hx
      obtain ⟨xa, xcap, rfl, hxk⟩ := hbr
      have HXK := Lib.hid hxk
      obtain ⟨U, hU⟩ : ∃ U, U = uptoF ((listsOf es).take k) := ⟨_, rfl⟩
      have HUP := Lib.hid (R.out.upk hx U)
      have hx8 : x.length ≤ 8 := by
       obtain ⟨pe, hpe, e⟩ := listsOf_get hx
       rw [← e]
       exact (HS8.out pe.s (List.mem_map.2 ⟨pe, List.mem_of_getElem? hpe, rfl⟩)).1
      have HCJ := Lib.hid hcell
      rw [← hU]
      have hcj := FK.out.cel hcell
      clear hxk hcell hx hU
      go_wp2_with fail
      go_loopw [17, 19] (fun u i wr => ∃ t : Nat, i = .int .i64 t ∧ t ≤ x.length ∧ u = .int .i64 (upK U x t) ∧ Fr (fun _ => False) w8 wr) (fun _ i _ => x.length - (intOf i).toNat)
      case atStart => exact ⟨0, rfl, Nat.zero_le _, rfl, FK.out⟩
      case round =>
       clear hcj
       obtain ⟨t, rfl, htx, rfl, hf⟩ := hrel
       have FJ := Lib.hid hf
       clear hf
       have hcj := FJ.out.cel HCJ.out
       rcases Nat.lt_or_ge t x.length with htl | hge
       ·obtain ⟨b, hb⟩ := get_of_lt htl
        obtain ⟨A, rv, rfl, -, hba, -⟩ := HXK.out t b hb
        obtain ⟨b0, b1, -, -, -, -⟩ := hba.to (FJ.out.block _ hba.lt fun h => h)
        have z0 : ∀ y : Lcl.InS (fun w' => Fr (fun _ => False) wr w'), y.w.cell? (a.add k) = some (.slice (some A) x.length xcap) := fun y => y.h.cel hcj
        have z1 : ∀ y : Lcl.InS (fun w' => Fr (fun _ => False) wr w'), y.w.cell? (A.add (t * 6)) = some (.int .i64 b.base) := fun y => y.h.cel b0
        have z2 : ∀ y : Lcl.InS (fun w' => Fr (fun _ => False) wr w'), y.w.cell? ⟨(A.add (t * 6)).block, (A.add (t * 6)).off + 1, none⟩ = some (.int .i64 b.span) := fun y => y.h.cel b1
        have HNX := Lib.hid (upK_next (U := U) hb)
        obtain ⟨U2, hU2⟩ : ∃ U2, U2 = upK U x t := ⟨_, rfl⟩
        have hbk := HUP.out.2 b (List.mem_of_getElem? hb)
        have hb1 := hbk.base0
        have hb2 := hbk.base1
        have hb3 := hbk.span0
        have hb4 := hbk.span1
        rw [← hU2]
        clear hbk hU2 hb hba b0 b1
        go_wp2_with fail
        clear hcj
        refine Lcl.wp_region_calm (by kernel_rfl) [(true, [0, 1, 2, 4, 8, 9, 10, 12]), (false, [3, 11]), (true, [5, 6, 13, 14]), (false, [7, 15]), (true, [16, 17])] #[0, 0, 3, 7, 0, 31, 63, 127, 0, 0, 768, 1792, 0, 7936, 16128, 32512, 65535, 131071] [0, 1, 2, 3, 4, 5, 6, 7, 8, 9, 10, 11, 12, 13, 14, 15] 0 #[true, true, true, true, true, true, true, true, true, true, true, true, true, true, true, true, true, true] (by kernel_rfl) (by kernel_rfl) (by kernel_rfl) (fun w' => Fr (fun _ => False) wr w') (Fr.same wr).drew (fun d c a v w h => by cases d <;> exact h) ?_
        simp only [Lcl.opsOf, List.map_cons, List.map_nil, List.getElem?_toArray, List.getElem?_cons_succ, List.getElem?_cons_zero, Option.getD_some]
        refine Lcl.wpCalm_t ?_
        repeat (go_big_quiet_step (rfl))
        refine wpQuiet_nil ?_
        refine Lcl.wpCalm_f ?_
        repeat (go_big_quiet_step (rfl))
        refine wpQuiet_nil ?_
        refine Lcl.wpCalm_t ?_
        repeat (go_big_quiet_step (rfl))
        refine wpQuiet_nil ?_
        refine Lcl.wpCalm_f ?_
        repeat (go_big_quiet_step (rfl))
        refine wpQuiet_nil ?_
        refine Lcl.wpCalm_t ?_
        repeat (go_big_quiet_step (rfl))
        refine wpQuiet_nil ?_
        refine Lcl.wpCalm_nil ?_
        refine Lcl.wpG_run [] _ _ _ (by kernel_rfl) ?_
        simp only [List.map_cons, List.map_nil, List.getElem?_toArray, List.getElem?_cons_succ, List.getElem?_cons_zero, Option.getD_some]
        go_wp2_with fail
        go_roundw
        case rel => exact ⟨t + 1, by go_num, htl, by rw [HNX.out], FJ.out.drew⟩
        case measure => simp [intOf]; omega
       ·obtain rfl : t = x.length := by omega
        have hupn := HUP.out.1
        rw [hupn]
        clear hupn
        go_wp2_with fail
        go_roundw
        case rel => exact ⟨k + 1, by go_num, hlt, rfl, FJ.out⟩
        case measure => simp [intOf]; omega
     ·obtain rfl : k = lf.length := by omega
      obtain ⟨U, hU⟩ : ∃ U, U = uptoF ((listsOf es).take lf.length) := ⟨_, rfl⟩
      have hwt := HWT.out
      rw [← hU] at hwt ⊢
      have HWU := Lib.hid hwt
      have hrc := rclean_walk _ (catE es) U be _ wj (VA.out.old FK.out) HG.out
      have HRC := Lib.hid (show Calls Tryz.prog 33 #[.slice oa1 (catE es).length cap1, .int .i64 U, .int .i64 be] wj (BatsPost (fun _ => True) wj (cleanedL (catE es) U be)) from hrc)
      obtain ⟨q0, q1, q2, q3, q4⟩ := TA.out.old (F8.out.tr FK.out)
      have HCO := Lib.hid (cleaned_ok (U := U) (be := be) (all := catE es) R.out.ok)
      clear hwt hrc HWT hU
      go_wp2_with fail
      refine HRC.out.mono ?_
      rintro e w9 ⟨cv, rfl, hcv, hf9⟩
      obtain ⟨C, hC⟩ : ∃ C, C = cleanedL (catE es) U be := ⟨_, rfl⟩
      rw [← hC] at hcv
      have hcl : C.length ≤ 8 := by rw [hC]; exact Nat.le_trans (cleaned_len _ _ _) CL.out
      have hco := HCO.out
      have hwt := HWU.out
      rw [← hC] at hco hwt
      have HC := Lib.hid (And.intro hco (And.intro hcl hwt))
      have hcv2 := hcv
      obtain ⟨ca, ccap, rfl, -⟩ := hcv2
      have CV := Lib.hid hcv
      have hfk9 := FK.out.tr hf9
      have F9 := Lib.hid hfk9
      have HL9 := Lib.hid (HLG.out.old hfk9)
      have HEL9 := Lib.hid (show ∀ (k : Nat) (x : List Bat), (listsOf es)[k]? = some x → ∃ a bv, ow = some a ∧ w9.cell? (a.add k) = some bv ∧ BatsR (fun _ => True) w9 bv x from fun k x hx => by
       obtain ⟨a, bv, h1, -, h3, h4⟩ := HEL.out k x hx
       exact ⟨a, bv, h1, hfk9.cel h3, (h4.mono fun _ _ _ => trivial).old hfk9⟩)
      clear hcv hf9 hfk9 hC hcl hco hwt HRC HCO HWU HLG HEL q0 q1 q2 q3 q4
      go_wp2_with fail
      go_loopw [21] (fun i wr => ∃ k : Nat, i = .int .i64 k ∧ k ≤ es.length ∧ Fr (fun _ => False) w9 wr) (fun i _ => es.length - (intOf i).toNat)
      case atStart => exact ⟨0, rfl, Nat.zero_le _, Fr.same _⟩
      case round =>
       obtain ⟨k, rfl, hke, hf⟩ := hrel
       have FR := Lib.hid hf
       have HSL := Lib.hid (lseg_all (HL9.out.old hf) k)
       clear hf
       rcases Nat.lt_or_ge k es.length with hlt | hge
       ·go_wp2_with fail
        refine HSL.out.mono ?_
        obtain ⟨x, hx⟩ := get_of_lt (show k < (listsOf es).length by rw [LLL.out]; exact hlt)
        have hwx := HC.out.2.2 k x hx
        rintro e w10 hp
        have hp2 : ∃ oa2 cap2, e = .returned (.tuple #[.slice oa2 (insideL C x).length cap2, .bool true]) ∧ BatsR (fun b => wr.heap.size ≤ b) w10 (.slice oa2 (insideL C x).length cap2) (insideL C x) ∧ Fr (fun _ => False) wr w10 := by
         rcases hp with ⟨l2, hl2, oa2, cap2, rfl, hb, hf⟩ | ⟨hle, -, -⟩
         ·rw [hwx] at hl2
          injection hl2 with hl2
          subst hl2
          exact ⟨oa2, cap2, rfl, hb, hf⟩
         ·exfalso
          have h1 := (List.getElem?_eq_some_iff.1 hwx).1
          unfold listsOf at h1
          rw [List.length_map] at h1
          omega
        obtain ⟨oa2, cap2, rfl, hb10, hf10⟩ := hp2
        obtain ⟨a, bv, rfl, hcell, hbr⟩ := HEL9.out k x hx
        have hx8 : x.length ≤ 8 ∧ ∀ b ∈ x, BatOK b := by
         obtain ⟨pe, hpe, e⟩ := listsOf_get hx
         rw [← e]
         exact HS8.out pe.s (List.mem_map.2 ⟨pe, List.mem_of_getElem? hpe, rfl⟩)
        have F10 := Lib.hid (FR.out.tr hf10)
        have hcj := F10.out.cel hcell
        have HINS := Lib.hid (inside_walk _ _ C x _ _ w10 (CV.out.old F10.out) (hbr.old F10.out) HC.out.1 hx8.2 (by have := HC.out.2.1; omega) (by omega))
        have V10 := Lib.hid hb10
        have HIL := Lib.hid (show (insideL C x).length ≤ 8 by have := inside_len C x; have := HC.out.2.1; omega)
        have HIO := Lib.hid (show ∀ b ∈ insideL C x, BatOK b from fun b hb => (inside_or hb).elim (HC.out.1 b) (hx8.2 b))
        obtain ⟨M, hM⟩ : ∃ M, M = insideL C x := ⟨_, rfl⟩
        rw [← hM] at HINS V10 HIL HIO ⊢
        obtain ⟨bxa, bxc, rfl, -⟩ := hbr
        clear hwx hp hb10 hf10 hcell hx hM HSL
        go_wp2_with fail
        refine HINS.out.mono ?_
        rintro e w11 ⟨oi, ic, rfl, hbi, hf11⟩
        have F11 := Lib.hid (F10.out.tr hf11)
        have HSM := Lib.hid (same_bats _ _ M _ _ w11 (V10.out.old hf11) hbi (by have := HIL.out; omega) (small_ok HIO.out))
        clear hbi hf11 HINS hcj
        go_wp2_with fail
        refine HSM.out.mono ?_
        rintro e w12 ⟨rfl, hf12⟩
        have F12 := Lib.hid (F11.out.tr hf12)
        clear hf12 HSM
        go_wp2_with fail
        go_roundw
        case rel => exact ⟨k + 1, by go_num, hlt, F12.out⟩
        case measure => simp [intOf]; omega
       ·obtain rfl : k = es.length := by omega
        clear HSL
        go_wp2_with fail
        refine (live_walk _).mono ?_
        rintro e w13 ⟨rfl, hf13⟩
        have F13 := Lib.hid (FA.out.tr (F8.out.tr (F9.out.tr (FR.out.tr hf13))))
        clear hf13
        go_wp2_with fail
        go_ret
        exact ⟨rfl, F13.out⟩
   ·obtain rfl := hfu8 rfl
    have C8 := Lib.hid hc8
    clear hc8 hfu8 HSTP C hj20
    go_wp2_with fail
    go_roundw
    case rel => exact ⟨j + 1, es8, L8, S8, us8, F8, by go_num, by go_num, C8.out⟩
    case measure => simp [intOf]; omega
   ·exact absurd rfl hfu8
end
end Go.Proofs.YtdlnafhhkpklmaaGreatDoor
