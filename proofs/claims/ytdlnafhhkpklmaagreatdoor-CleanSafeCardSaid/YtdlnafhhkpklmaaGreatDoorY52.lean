/- CleanSafe: the walk. -/
import Derived.Test.YtdlnafhhkpklmaaGreatDoorY51
import Derived.Test.YtdlnafhhkpklmaaGreatDoorY50
namespace Go.Proofs.YtdlnafhhkpklmaaGreatDoor
open Go.RowKit Go.Fm Go.BigFrame Go.Shelf Go.Maps
set_option linter.unusedVariables false
set_option linter.unusedSimpArgs false
set_option maxRecDepth 100000
section
variable {B : Nat} {w w' w1 w2 W wr : World} {lb db mb cb lim : Nat} {p : ByteArray} {ev : Nat} {beg : Int} {es : List PE} {own : Bool} {L L' L0 : List Row} {S S' S0 : Nat → Prop} {room used fuse : Int} {F F' : ByteArray → ByteArray × Nat} {n j : Nat} {ss : List Seg} {lf : List (List Bat)} {s : Seg} {l : List Bat}
set_option maxHeartbeats 64000000 in
theorem csafe_walk (l : List Bat) (v : Value) (lm be fu : Int) (kv : Value) (ks : List Int) (key : ByteArray) (w : World) (hl : BatsR (fun _ => True) w v l) (hk : IntsR w kv ks) (hst : StepsOK w) (hw0 : 1 ≤ w.heap.size) (hfw : (Lit.int .i64 fu).wf = true) (hky : key.size ≤ maxLen) :
  Calls Tryz.prog 8 #[logV v lm be fu kv, .string key] w fun e w' => e = .returned (.bool true) ∧ Fr (fun _ => False) w w' := by
 have hl2 := hl.mono (K' := fun b => b < w.heap.size) fun b _ h => h
 clear hl
 obtain ⟨oa, cap, rfl, hl3⟩ := hl2
 obtain ⟨ka, kc, rfl, hk3⟩ := hk
 unfold logV
 have hfa := (Fr.same w).alloc (.cells #[.slice oa l.length cap, .int .i64 lm, .int .i64 be, .int .i64 fu, .slice ka ks.length kc] 62)
 have hta : LogAt (w.alloc (.cells #[.slice oa l.length cap, .int .i64 lm, .int .i64 be, .int .i64 fu, .slice ka ks.length kc] 62)) w.heap.size (.slice oa l.length cap) lm be fu (.slice ka ks.length kc) :=
  ⟨cell_alloc_new w _ 62 0, cell_alloc_new w _ 62 1, cell_alloc_new w _ 62 2, cell_alloc_new w _ 62 3, cell_alloc_new w _ 62 4⟩
 have HL := Lib.hid (show BatsR (fun b => b < w.heap.size) (w.alloc (.cells #[.slice oa l.length cap, .int .i64 lm, .int .i64 be, .int .i64 fu, .slice ka ks.length kc] 62)) (.slice oa l.length cap) l from BatsR.old ⟨oa, cap, rfl, hl3⟩ hfa)
 have HST := Lib.hid (hst.old hfa)
 have TA := Lib.hid hta
 have FA := Lib.hid hfa
 have HK := Lib.hid (show ∀ (i : Nat) (x : Int), ks[i]? = some x → ∃ a, ka = some a ∧ (w.alloc (.cells #[.slice oa l.length cap, .int .i64 lm, .int .i64 be, .int .i64 fu, .slice ka ks.length kc] 62)).cell? (a.add i) = some (.int .i64 x) ∧ a.block < (w.alloc (.cells #[.slice oa l.length cap, .int .i64 lm, .int .i64 be, .int .i64 fu, .slice ka ks.length kc] 62)).heap.size from fun i x h => by
  obtain ⟨a, h1, h2, -⟩ := hk3 i x h
  have hlt := World.block_lt_of_cell? w _ h2
  rw [add_block] at hlt
  exact ⟨a, h1, hfa.cel h2, by simp; omega⟩)
 have SA := Lib.hid (show (w.alloc (.cells #[.slice oa l.length cap, .int .i64 lm, .int .i64 be, .int .i64 fu, .slice ka ks.length kc] 62)).heap.size = w.heap.size + 1 by simp)
 have HFEW := Lib.hid (few_walk _ l _ _ HL.out)
 have FW := Lib.hid hfw
 clear hl3 hst hfa hta hk3 hfw
 go_enter Tryz.func8, Tryz.ntmps8
 go_wp2_with fail
 generalize (w.alloc (.cells #[.slice oa l.length cap, .int .i64 lm, .int .i64 be, .int .i64 fu, .slice ka ks.length kc] 62)) = W0 at *
 refine HFEW.out.mono ?_
 rintro e w1 ⟨c, rfl, hfew, hf1⟩
 have F1 := Lib.hid hf1
 have hcf : c = true → Few l := hfew
 have HCF := Lib.hid hcf
 obtain ⟨q0, q1, q2, q3, q4⟩ := TA.out.old F1.out
 clear hfew hf1 hcf HFEW
 by_cases hbad : c = false ∨ lm < 50 ∨ 1000000 < lm
 ·have h3 : c = false ∨ (c = true ∧ lm < 50) ∨ (c = true ∧ 50 ≤ lm ∧ 1000000 < lm) := by
   cases c
   ·exact .inl rfl
   ·rcases hbad with h | h | h
    ·cases h
    ·exact .inr (.inl ⟨rfl, h⟩)
    ·by_cases h5 : lm < 50
     ·exact .inr (.inl ⟨rfl, h5⟩)
     ·exact .inr (.inr ⟨rfl, by omega, h⟩)
  clear hbad
  rcases h3 with rfl | ⟨rfl, h8⟩ | ⟨rfl, h8, h9⟩
  all_goals
   go_wp2_with fail
   refine (live_walk _).mono ?_
   rintro e w4 ⟨rfl, hf4⟩
   have F4 := Lib.hid ((FA.out.tr F1.out).tr hf4)
   clear hf4
   go_wp2_with fail
   go_ret
   exact ⟨rfl, F4.out⟩
 ·obtain rfl : c = true := by cases c <;> simp_all
  have hl50 : 50 ≤ lm := by omega
  have hlM : lm ≤ 1000000 := by omega
  obtain ⟨lim, rfl⟩ : ∃ n : Nat, lm = (n : Int) := ⟨lm.toNat, by omega⟩
  have LIM := Lib.hid (show 50 ≤ lim ∧ lim ≤ 1000000 by omega)
  have n50 : ¬ (lim : Int) < 50 := by omega
  have nM : ¬ (1000000 : Int) < lim := by omega
  have HFW := Lib.hid (HCF.out rfl)
  have hlen := HFW.out.len
  clear hbad hl50 hlM HCF
  go_wp2_with fail
  clear n50 nM
  refine (dnew_n 400000 w1 (by omega) (by omega)).mono ?_
  rintro e w2 ⟨db, mb, rfl, hdn, hdb, hmb, hf2⟩
  have hs1 := F1.out.size
  have F2 := Lib.hid (F1.out.tr hf2)
  have HB := Lib.hid (show W0.heap.size ≤ db ∧ W0.heap.size ≤ mb by omega)
  have hfil := filled_walk (B := W0.heap.size) l oa cap lim be fu ka ks.length kc w2 ((HL.out.old F2.out).mono fun b hb _ => by have h8 : b < w.heap.size := hb; have := SA.out; omega) HFW.out hdn (by have := SA.out; omega) HB.out.1 HB.out.2 LIM.out.1 LIM.out.2 (HST.out.old F2.out)
  unfold logV at hfil
  have HFIL := Lib.hid hfil
  obtain ⟨q0, q1, q2, q3, q4⟩ := TA.out.old F2.out
  clear hdb hmb hdn hf2 hfil hs1
  go_wp2_with fail
  refine HFIL.out.mono ?_
  rintro e w4 ⟨lb, es, L, S, used, F, rfl, hm, hf4, hS, hD⟩
  have M4 := Lib.hid hm
  have F4 := Lib.hid (F2.out.trans hf4 fun i hi => .inr (by have := HB.out; rcases hi with h | h <;> (have h2 : i = _ := h; omega)))
  have R := Lib.hid hm.rows
  have HG := Lib.hid (hm.good hlen)
  have hsum : sumB (catE es) ≤ 130000 := by
   have h1 := sum_small (l := catE es) fun b hb => ⟨hm.d.cat_ok b hb, hm.sm b hb⟩
   have h2 := hm.len
   omega
  have HSUM := Lib.hid hsum
  have EL := Lib.hid (show es.length ≤ 8 from Nat.le_trans hm.el hlen)
  have CL := Lib.hid (show (catE es).length ≤ 8 from Nat.le_trans hm.len hlen)
  have HRD := Lib.hid (lread_walk hm.d (HST.out.old F4.out) 0 1000000)
  clear hm hf4 hS hD HFIL q0 q1 q2 q3 q4 hsum
  obtain ⟨q0, q1, q2, q3, q4⟩ := TA.out.old F4.out
  go_wp2_with fail
  refine HRD.out.mono ?_
  rintro e w5 hp
  have hpk : pick 0 1000000 (catE es) 0 [] = catE es := by
   rw [pick_all 0 1000000 (catE es) 0 [] (fun b hb => by have := (M4.out.d.cat_ok b hb).base0; have := (M4.out.d.cat_ok b hb).span0; omega) (by have := HSUM.out; omega), List.nil_append]
  have hp' : ∃ oa1 cap1, e = .returned (.tuple #[.slice oa1 (catE es).length cap1, .int .i64 0]) ∧ BatsR (fun b => w4.heap.size ≤ b) w5 (.slice oa1 (catE es).length cap1) (catE es) ∧ Fr (fun _ => False) w4 w5 := by
   rcases hp with ⟨h, -⟩ | ⟨-, -, v, rfl, hv, hcap, hf⟩
   ·exfalso
    have := M4.out.d.be
    omega
   ·rw [hpk] at hv
    have hv2 := hv
    obtain ⟨oa1, cap1, rfl, -⟩ := hv2
    exact ⟨oa1, cap1, rfl, hv, hf⟩
  obtain ⟨oa1, cap1, rfl, hv5, hf5⟩ := hp'
  have HEND := Lib.hid (lend_walk (M4.out.old hf5).d.lg)
  obtain ⟨E, hE⟩ : ∃ E, E = lgEnd 0 es := ⟨_, rfl⟩
  have HE := Lib.hid hE
  rw [← hE] at HEND
  obtain ⟨w50, rfl⟩ : ∃ w50, w50 = w5 := ⟨_, rfl⟩
  have M50 := Lib.hid (M4.out.old hf5)
  have F50 := Lib.hid (F4.out.tr hf5)
  have V50 := Lib.hid (hv5.mono (K' := fun b => w4.heap.size ≤ b ∧ b < w50.heap.size) fun b h hl => ⟨h, hl⟩)
  have s4_50 := hf5.size
  clear hp hpk hv5 hf5 HRD hE
  go_wp2_with fail
  refine HEND.out.mono ?_
  rintro e w5 ⟨rfl, hfe⟩
  have s50_5 := hfe.size
  have M5 := Lib.hid (M50.out.old hfe)
  have F5 := Lib.hid (F50.out.tr hfe)
  have V5 := Lib.hid ((V50.out.old hfe).mono (K' := fun b => w4.heap.size ≤ b ∧ b < w5.heap.size) fun b h hl => ⟨h.1, by have h2 : w4.heap.size ≤ b ∧ b < w50.heap.size := h; omega⟩)
  have SLT := Lib.hid (fun i (h : S i ∨ DkS db mb L i) => (M4.out.d.lt h).2)
  have s45 : w4.heap.size ≤ w5.heap.size := by omega
  have HNEW := Lib.hid (cnew_walk M5.out.d (HST.out.old F5.out) HG.out (by have := EL.out; omega) (fun l' hl' => by
   rw [lists_segs] at hl'
   obtain ⟨s, hs, rfl⟩ := List.mem_map.1 hl'
   exact M5.out.ne s hs) (by have := HSUM.out; omega) be)
  clear hfe HEND q0 q1 q2 q3 q4
  obtain ⟨q0, q1, q2, q3, q4⟩ := TA.out.old F5.out
  go_wp2_with fail
  refine HNEW.out.mono ?_
  rintro e w6 ⟨cb, vl, rfl, hcl, hcb, hf6⟩
  have M6 := Lib.hid (M5.out.old hf6)
  have F6 := Lib.hid (F5.out.tr hf6)
  have V6 := Lib.hid (V5.out.old hf6)
  have CLA := Lib.hid hcl
  have HCB := Lib.hid (show w5.heap.size ≤ cb from hcb)
  obtain ⟨lf, hlf⟩ : ∃ lf, lf = leftsL (listsOf es) (catE es) be := ⟨_, rfl⟩
  have hlfl : lf.length = es.length - 1 := by rw [hlf, lefts_len]; unfold listsOf; rw [List.length_map]
  rw [lists_segs] at hlf
  have LF := Lib.hid (And.intro (show lf = leftsL ((segsOf es).map (·.l)) (catL (segsOf es)) be from hlf) hlfl)
  have RW := Lib.hid (CLA.out.r.mono (K' := fun b => cb < b ∧ b < w6.heap.size) fun b h hl => ⟨h, hl⟩)
  rw [lists_segs, ← hlf] at RW
  have hcb6 : cb < w6.heap.size := lt_of_heap CLA.out.b
  have XC := Lib.hid CLA.out.b
  obtain ⟨mx, hmx⟩ : ∃ mx, mx = max fu (-1) := ⟨_, rfl⟩
  have HMX := Lib.hid hmx
  have hmw : (Lit.int .i64 mx).wf = true := by
   have h : mx = fu ∨ mx = -1 := by omega
   rcases h with h | h
   ·rw [h]; exact FW.out
   ·rw [h]; decide
  have HFU := Lib.hid (dfuse_walk M6.out.d.dk mx (by omega))
  have HMW := Lib.hid hmw
  have hmx2 : max fu (-1) = mx := hmx.symm
  clear hcl hcb hf6 HNEW hlf hlfl hmw hmx CLA q0 q1 q2 q3 q4
  obtain ⟨q0, q1, q2, q3, q4⟩ := TA.out.old F6.out
  go_wp2_with fail
  refine HFU.out.mono ?_
  rintro e w7 ⟨rfl, hd7, hf7⟩
  have D7 := Lib.hid (LogD.refuse M6.out.d hf7 hd7 HMW.out)
  have s67 := hf7.size
  have hS4 : ∀ i, DkS db mb L i → i < w4.heap.size := fun i hi => SLT.out i (.inr hi)
  have F7 := Lib.hid (show Fr (fun _ => False) W0 w7 from F6.out.trans hf7 fun i hi => .inr (M6.out.d.dl i hi))
  have V7 := Lib.hid (V6.out.fr hf7 fun i (hi : w4.heap.size ≤ i ∧ i < w5.heap.size) h => by have := hS4 i h; omega)
  have X7 := Lib.hid ((hf7.block cb hcb6 fun h => by have := hS4 cb h; have := HCB.out; omega).trans XC.out)
  have R7 := Lib.hid (RW.out.fr hf7 fun i (hi : cb < i ∧ i < w6.heap.size) h => by have := hS4 i h; have := HCB.out; omega)
  have hC0 : CSt W0.heap.size w7 w7 lb db mb cb lim (segsOf es) lf S L 0 es L S used mx F (2 * l.length) vl := by
   have hU0 : updN (segsOf es) lf 0 = segsOf es := by unfold updN updZ; simp
   refine ⟨D7.out, X7.out, R7.out.mono fun b (h : cb < b ∧ b < w6.heap.size) _ => ⟨h.1, by omega⟩, fun i hi => .inl (by have := SLT.out i hi; have := HCB.out; omega), by omega, by have := HCB.out; have := SA.out; have := F5.out.size; omega, hU0.symm, M6.out.ls, by have := M6.out.us; omega, by omega, Nat.zero_le _, Fr.refl _ _, fun i hi => hi.elim .inl fun h => .inr (.inl h)⟩
  have C0 := Lib.hid hC0
  have OKS := Lib.hid (show LeftOK (segsOf es) lf by rw [LF.out.1]; exact R.out.left be)
  have HS8 := Lib.hid (show ∀ s ∈ segsOf es, s.l.length ≤ 8 ∧ ∀ b ∈ s.l, BatOK b from fun s hs => ⟨by have h1 := cat_mem hs; have h2 := CL.out; have h3 : (catE es).length = (catL (segsOf es)).length := rfl; omega, fun b hb => R.out.ok b (mem_cat hs hb)⟩)
  have HSS := Lib.hid (show lf = [] ∨ (segsOf es).length = lf.length + 1 by
   have hlfl := LF.out.2
   unfold segsOf
   rw [List.length_map]
   rcases Nat.eq_zero_or_pos es.length with h | h
   ·exact .inl (List.eq_nil_of_length_eq_zero (by omega))
   ·exact .inr (by omega))
  have hl8 : lf.length ≤ 7 := by have := EL.out; have := LF.out.2; omega
  have LS7 := Lib.hid M6.out.ls
  have M6D := Lib.hid M6.out.d.dl
  clear hd7 hf7 hC0 HFU HMW hS4 q0 q1 q2 q3 q4 RW XC X7 R7 D7 hmx2
  go_wp2_with fail
  go_loopw [14] (fun i wr => ∃ (j : Nat) (es' : List PE) (L' : List Row) (S' : Nat → Prop) (us' fu' : Int) (F' : ByteArray → ByteArray × Nat), i = .int .i64 j ∧ CSt W0.heap.size w7 wr lb db mb cb lim (segsOf es) lf S L j es' L' S' us' fu' F' (2 * l.length) vl) (fun i _ => 20 - (intOf i).toNat)
  case atStart => exact ⟨0, es, L, S, used, mx, F, rfl, C0.out⟩
  case round =>
   obtain ⟨j, es', L', S', us', fu', F', rfl, hc⟩ := hrel
   have C := Lib.hid hc
   have hj := hc.jl
   have F7w := Lib.hid (show Fr (fun _ => False) W0 wr from F7.out.trans hc.fr fun i hi => .inr (by
    rcases hi with h | h | h
    ·have h2 : i = cb := h; have := HCB.out; have := F5.out.size; omega
    ·have := (M4.out.d.lt (.inl h)).1; exact this
    ·have := (M4.out.d.lt (.inr h)).1; exact this))
   have HSTP := Lib.hid (cstep_walk hc (HST.out.old F7w.out) HSS.out (by omega) R.out.ne HS8.out OKS.out)
   clear hc C0
   have hj20 : (j : Int) < 20 := by omega
   go_wp2_with fail
   refine HSTP.out.mono ?_
   rintro e w8 hp
   have hp2 : (∃ es8 L8 S8 us8 fu8 F8, j < lf.length ∧ e = .returned (.tuple #[.bool true, .int .i64 0]) ∧ CSt W0.heap.size w7 w8 lb db mb cb lim (segsOf es) lf S L (j + 1) es8 L8 S8 us8 fu8 F8 (2 * l.length) vl) ∨
     (∃ (c : Int) (q : Nat) (L8 : List Row) (us8 fu8 : Int) (F8 : ByteArray → ByteArray × Nat) (n8 : Nat), e = .returned (.tuple #[.bool false, .int .i64 c]) ∧ q ≤ lf.length ∧ DiskLg W0.heap.size w8 db mb pS 0 (updN (segsOf es) lf q) L8 400000 us8 fu8 F8 n8 ∧ LastSafe pS (updN (segsOf es) lf q) L8 F8 ∧ Fr (fun i => i = cb ∨ S i ∨ DkS db mb L i) w7 w8 ∧ ∀ i, DkS db mb L8 i → DkS db mb L i ∨ S i ∨ w7.heap.size ≤ i) := by
    rcases hp with ⟨hjn, rfl, hc8⟩ | ⟨hjn, rfl, es8, L8, S8, us8, fu8, F8, hc8, -⟩ | ⟨-, -, c, -, rfl, q, L8, us8, fu8, F8, hq, hd, hl, hf, hs⟩
    ·have hd := hc8.d.dlg
     have hl := hc8.ls
     rw [hc8.sg] at hd hl
     exact .inr ⟨0, j, _, _, _, _, _, rfl, hc8.jl, hd, hl, hc8.fr, fun i hi => by
      rcases hc8.so i (.inr hi) with h | h | h
      ·exact .inr (.inl h)
      ·exact .inl h
      ·exact .inr (.inr h)⟩
    ·exact .inl ⟨es8, L8, S8, us8, fu8, F8, hjn, rfl, hc8⟩
    ·exact .inr ⟨c, q, L8, us8, fu8, F8, _, rfl, hq, hd, hl, hf, hs⟩
   clear hp HSTP C
   rcases hp2 with ⟨es8, L8, S8, us8, fu8, F8, hjl, rfl, hc8⟩ | ⟨c, q, L8, us8, fu8, F8, n8, rfl, hq, hd8, hl8s, hf8, hs8⟩
   ·have C8 := Lib.hid hc8
    clear hc8
    go_wp2_with fail
    go_roundw
    case rel => exact ⟨j + 1, es8, L8, S8, us8, fu8, F8, by go_num, C8.out⟩
    case measure => simp [intOf]; omega
   ·have F8 := Lib.hid (show Fr (fun _ => False) W0 w8 from F7.out.trans hf8 fun i hi => .inr (by
     rcases hi with h | h | h
     ·have h2 : i = cb := h; have := HCB.out; have := F5.out.size; omega
     ·have := (M4.out.d.lt (.inl h)).1; exact this
     ·have := (M4.out.d.lt (.inr h)).1; exact this))
    have VA := Lib.hid (V7.out.fr hf8 fun i (hi : w4.heap.size ≤ i ∧ i < w5.heap.size) h => by
     rcases h with h | h | h
     ·have h2 : i = cb := h; have := HCB.out; omega
     ·have := SLT.out i (.inl h); omega
     ·have := SLT.out i (.inr h); omega)
    have hkr : KeepR w8 ka ks (DkS db mb L8) := fun i x h => by
     obtain ⟨a, h1, h2, h3⟩ := HK.out i x h
     exact ⟨a, h1, F8.out.cel h2, fun hd => by have := hd8.dl _ hd; omega⟩
    have HC := Lib.hid (crash_any hd8.d.dk hd8.d.ok hd8.d.us ka kc ks hkr)
    have D8 := Lib.hid hd8
    have L8S := Lib.hid hl8s
    have HS8D := Lib.hid hs8
    obtain ⟨q0, q1, q2, q3, q4⟩ := TA.out.old F8.out
    clear hkr hd8 hl8s hf8 hs8 hj20
    go_wp2_with fail
    refine HC.out.mono ?_
    intro e w9 hcp
    obtain ⟨c9, F9, ts, rfl, -, hf9, hR, hopen⟩ := crash_inD D8.out (HST.out.old F8.out) (by omega) 20 lim LIM.out.1 LIM.out.2 (by omega) (by omega) hcp
    have hts := hR.same L8S.out (updN_ne R.out.ne)
    have hct : catL ts = catL (updN (segsOf es) lf q) := by rw [hts, tag_cat]
    have hend : ssEnd 0 ts = lgEnd 0 es := by rw [hts, tag_end, lg_end, ssEnd_last (updN_last HSS.out hq)]
    have hch : ∀ t ∈ ts, Chn t.base t.l := fun t ht => by obtain ⟨q, hs, -⟩ := hR.i.scan t ht; exact hs.at'.2.2
    have HJ := Lib.hid (trimN_zero hch hR.i.full)
    have hpo := popen_walk (hopen (ssEnd_ge0 hch))
    unfold cfgV pS at hpo
    have HPO := Lib.hid hpo
    have CT := Lib.hid (And.intro hct hend)
    have HQ := Lib.hid hq
    have F9' := Lib.hid (F8.out.trans hf9 fun i hi => .inr (D8.out.dl i hi))
    have V9 := Lib.hid (VA.out.fr hf9 fun i (hi : w4.heap.size ≤ i ∧ i < w5.heap.size) h => by
     rcases HS8D.out i h with h | h | h
     ·have := SLT.out i (.inr h); omega
     ·have := SLT.out i (.inl h); omega
     ·have := HCB.out; omega)
    clear hcp hf9 hR hopen hpo hch hts hct hend hq HC q0 q1 q2 q3 q4
    obtain ⟨q0, q1, q2, q3, q4⟩ := TA.out.old F9'.out
    go_wp2_with fail
    refine HPO.out.mono ?_
    rintro e w10 ⟨lb2, j2, es2, own2, L3, S3, u3, F4, rfl, hd10, hsg10, hj2, -, -, -, -, -, hf10⟩
    have hj0 : j2 = 0 := by rw [hj2]; exact HJ.out
    subst hj0
    rw [List.drop_zero] at hd10
    have hcat10 : catE es2 = catL (updN (segsOf es) lf q) := by
     unfold catE
     rw [hsg10]
     exact CT.out.1
    have hend10 : lgEnd 0 es2 = E := by rw [lg_end, hsg10, CT.out.2, HE.out]
    have HCO := Lib.hid (R.out.upd (before := be) LF.out.1 HQ.out)
    rw [← hcat10] at HCO
    have CAT10 := Lib.hid hcat10
    have F10 := Lib.hid (F9'.out.trans hf10 fun i hi => .inr (D8.out.dl i hi))
    have V10 := Lib.hid (V9.out.fr hf10 fun i (hi : w4.heap.size ≤ i ∧ i < w5.heap.size) h => by
     rcases HS8D.out i h with h | h | h
     ·have := SLT.out i (.inr h); omega
     ·have := SLT.out i (.inl h); omega
     ·have := HCB.out; omega)
    have HEN := Lib.hid (lend_walk hd10.lg)
    rw [hend10] at HEN
    have D10 := Lib.hid hd10
    clear hd10 hsg10 hj2 hf10 hcat10 hend10 HPO F9' V9
    go_wp2_with fail
    refine HEN.out.mono ?_
    rintro e w11 ⟨rfl, hf11⟩
    have F11 := Lib.hid (F10.out.tr hf11)
    have V11 := Lib.hid (V10.out.old hf11)
    have HRD := Lib.hid (lread_walk (D10.out.old hf11) (HST.out.old F11.out) 0 1000000)
    have COK := Lib.hid D10.out.cat_ok
    have HBE := Lib.hid D10.out.be
    clear hf11 HEN
    go_wp2_with fail
    refine HRD.out.mono ?_
    rintro e w12 hp
    have hsum : sumB (catE es2) ≤ 130000 := by
     have h1 := HCO.out.sum fun b hb => (R.out.ok b hb).len
     have h2 := HSUM.out
     have h3 : sumB (catE es) = sumB (catL (segsOf es)) := rfl
     omega
    have hpk : pick 0 1000000 (catE es2) 0 [] = catE es2 := by
     rw [pick_all 0 1000000 (catE es2) 0 [] (fun b hb => by have := (COK.out b hb).base0; have := (COK.out b hb).span0; omega) (by omega), List.nil_append]
    have hp' : ∃ oa2 cap2, e = .returned (.tuple #[.slice oa2 (catE es2).length cap2, .int .i64 0]) ∧ BatsR (fun b => w11.heap.size ≤ b) w12 (.slice oa2 (catE es2).length cap2) (catE es2) ∧ Fr (fun _ => False) w11 w12 := by
     rcases hp with ⟨h, -⟩ | ⟨-, -, v, rfl, hv, hcap, hf⟩
     ·exfalso
      have := HBE.out
      omega
     ·rw [hpk] at hv
      have hv2 := hv
      obtain ⟨oa2, cap2, rfl, -⟩ := hv2
      exact ⟨oa2, cap2, rfl, hv, hf⟩
    obtain ⟨oa2, cap2, rfl, hv12, hf12⟩ := hp'
    have hlen2 : (catE es2).length ≤ 8 := Nat.le_trans HCO.out.len (show (catL (segsOf es)).length ≤ 8 from CL.out)
    have HG2 := Lib.hid (show GoodL (catE es2) from ⟨hlen2, fun b hb => ok_goodB (COK.out b hb)⟩)
    have SO := Lib.hid (show SortedL (catE es) from rise_sorted R.out.rise R.out.ok)
    have SO2 := Lib.hid (show SortedL (catE es2) from rise_sorted (HCO.out.rise R.out.rise) COK.out)
    have F12 := Lib.hid (F11.out.tr hf12)
    have V12 := Lib.hid (V11.out.old hf12)
    have U12 := Lib.hid hv12
    have HLA := Lib.hid (klatest_walk _ (catE es) key _ w12 V12.out HG.out hky)
    have hsp := keysTo_spec (catE es) key (catE es).length
    clear hp hsum hpk hv12 hf12 HRD hlen2 D10 HBE V10 V11 q0 q1 q2 q3 q4
    cases hkk : keysTo (catE es) (catE es).length key with
    | none =>
     have hlat : latOf (catE es) (catE es).length key = (0, false) := by unfold latOf; rw [hkk]
     have hlat2 : latOf (catE es2) (catE es2).length key = (0, false) := by
      unfold latOf
      rw [HCO.out.keys hkk]
     rw [hlat] at HLA
     have HL2 := Lib.hid hlat2
     clear hsp hkk hlat hlat2
     go_wp2_with fail
     refine HLA.out.mono ?_
     rintro e w13 ⟨rfl, hf13⟩
     have F13 := Lib.hid (F12.out.tr hf13)
     have HLB := Lib.hid (klatest_walk _ (catE es2) key _ w13 (U12.out.old hf13) HG2.out hky)
     rw [HL2.out] at HLB
     clear hf13 HLA
     go_wp2_with fail
     refine HLB.out.mono ?_
     rintro e w14 ⟨rfl, hf14⟩
     have F14 := Lib.hid (F13.out.tr hf14)
     clear hf14 HLB
     go_wp2_with fail
     refine (live_walk _).mono ?_
     rintro e w15 ⟨rfl, hf15⟩
     have F15 := Lib.hid (FA.out.tr (F14.out.tr hf15))
     clear hf15
     go_wp2_with fail
     go_ret
     exact ⟨rfl, F15.out⟩
    | some p =>
     obtain ⟨i0, k0⟩ := p
     rw [hkk] at hsp
     obtain ⟨⟨b0, r0, hb0, hr0, hbare0, hkey0⟩, -, -⟩ := hsp
     dsimp only at hb0 hr0
     have hat : At (catE es) i0 k0 b0 r0 := ⟨hb0, hr0⟩
     have hlat : latOf (catE es) (catE es).length key = (b0.base + r0.at', true) := by unfold latOf; rw [hkk]; simp [posOf, hb0, hr0]
     rw [hlat] at HLA
     have ATK := Lib.hid hat
     have KEY := Lib.hid (show keysTo (catE es) (catE es).length r0.key = some (i0, k0) by rw [hkey0]; exact hkk)
     obtain ⟨X, hX⟩ : ∃ X, X = b0.base + r0.at' := ⟨_, rfl⟩
     have HX := Lib.hid hX
     rw [← hX] at HLA
     clear hlat hkk hb0 hr0 hbare0 hkey0 hat hX
     go_wp2_with fail
     refine HLA.out.mono ?_
     rintro e w13 ⟨rfl, hf13⟩
     have F13 := Lib.hid (F12.out.tr hf13)
     have HFA := Lib.hid (kfind_walk _ (catE es) X _ w13 (V12.out.old hf13) HG.out)
     have U13 := Lib.hid (U12.out.old hf13)
     clear hf13 HLA
     go_wp2_with fail
     refine HFA.out.mono ?_
     rintro e w6x ⟨r1, hv1, c1, rfl, z1, z2, ⟨oh1, n1, cap1, rfl⟩, hf6⟩
     obtain ⟨rfl, rfl⟩ := find_one SO.out ATK.out HX.out.symm z1 z2
     have hfa6 := hf6.alloc (.cells (recCells r1 (.slice oh1 n1 cap1)).toArray 79)
     have F6x := Lib.hid (F13.out.tr hfa6)
     have U6 := Lib.hid (U13.out.old hfa6)
     have A6 := Lib.hid (heap_alloc_self w6x (.cells (recCells r1 (.slice oh1 n1 cap1)).toArray 79))
     unfold recCells at F6x U6 A6
     clear z1 z2 hf6 hfa6 HFA
     unfold recV
     go_wp2_with fail
     generalize (w6x.alloc (.cells #[.int .i64 r1.at', .int .i64 r1.tm, .bool r1.bare, .string r1.key, .bool r1.gone, .string r1.val, .slice oh1 n1 cap1] 79)) = W6x at *
     refine (kfind_walk _ (catE es2) X _ _ U6.out HG2.out).mono ?_
     rintro e w7x ⟨s1, hv2, c2, rfl, z1, z2, ⟨oh2, n2, cap2, rfl⟩, hf7x⟩
     have Q1 := Lib.hid z1
     have Q2 := Lib.hid z2
     have A7 := Lib.hid ((hf7x.block w6x.heap.size (lt_of_heap A6.out) fun h => h).trans A6.out)
     have hf8x := hf7x.alloc (.cells (recCells s1 (.slice oh2 n2 cap2)).toArray 79)
     have A8 := Lib.hid ((((Fr.same w7x).alloc (.cells (recCells s1 (.slice oh2 n2 cap2)).toArray 79)).block w6x.heap.size (lt_of_heap A7.out) fun h => h).trans A7.out)
     have F8x := Lib.hid (F6x.out.tr hf8x)
     have B8 := Lib.hid (heap_alloc_self w7x (.cells (recCells s1 (.slice oh2 n2 cap2)).toArray 79))
     clear z1 z2 hf7x hf8x
     unfold recV
     cases hgn : r1.gone with
     | true =>
      rw [hgn] at A8
      unfold recCells at A8 F8x B8
      have dd := fun j => cell_of A8.out j
      clear Q1 Q2 A6 A7
      go_wp2_with fail
      refine (live_walk _).mono ?_
      rintro e w9x ⟨rfl, hf9x⟩
      have F9x := Lib.hid (FA.out.tr (F8x.out.tr hf9x))
      clear hf9x
      go_wp2_with fail
      go_ret
      exact ⟨rfl, F9x.out⟩
     | false =>
      obtain ⟨j2, m2, b2, hj2, hbb⟩ := R.out.kept (before := be) LF.out.1 HQ.out ATK.out KEY.out hgn
      rw [← CAT10.out] at hj2
      obtain ⟨rfl, rfl⟩ := find_one SO2.out hj2 (by rw [hbb]; exact HX.out.symm) Q1.out Q2.out
      unfold recCells at A8 F8x B8
      rw [hgn] at A8 F8x B8
      have dd := fun j => cell_of A8.out j
      have db2 := fun j => cell_of B8.out j
      clear Q1 Q2 A6 A7 hj2 hbb
      go_wp2_with fail
      refine (live_walk _).mono ?_
      rintro e w9x ⟨rfl, hf9x⟩
      have F9x := Lib.hid (FA.out.tr (F8x.out.tr hf9x))
      clear hf9x
      go_wp2_with fail
      go_ret
      exact ⟨rfl, F9x.out⟩
end
end Go.Proofs.YtdlnafhhkpklmaaGreatDoor
