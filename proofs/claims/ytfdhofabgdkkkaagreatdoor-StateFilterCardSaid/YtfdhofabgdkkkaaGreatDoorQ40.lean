/- A request's filter of any make, and its topics: what the codec writes. -/
import Derived.Test.YtfdhofabgdkkkaaGreatDoorQ39
namespace Go.Proofs.YtfdhofabgdkkkaaGreatDoor
open Go.RowKit Go.Fm Go.BigFrame Go.Shelf Go.Maps
set_option linter.unusedVariables false
set_option linter.unusedSimpArgs false
set_option maxRecDepth 100000
section
variable {w w' : World} {cb xb : Nat} {s : ByteArray} {bad : Bool} {S : Nat → Prop} {K : Nat → Prop}
noncomputable def ftxt (op : Int) (nm vl : ByteArray) (ks : Fst) : ByteArray := if checkB op nm vl ks then exS op nm vl ks else ⟨#[]⟩
noncomputable def filOk (op : Int) (nm vl : ByteArray) (ks : Fst) : Bool := checkB op nm vl ks && okT (ftxt op nm vl ks) 60000
theorem ftxt_size (op : Int) (nm vl : ByteArray) (ks : Fst) : (ftxt op nm vl ks).size ≤ 60630 := by
 unfold ftxt
 split
 ·rename_i h
  rw [exS_size]
  exact exL_len h
 ·exact Nat.zero_le _
set_option maxHeartbeats 16000000 in
theorem cfilter_walk (h : CodA w cb s bad) (op : Int) (nm vl : ByteArray) (kv : Value) (ks : Fst) (hp : PartAt w ⟨xb, 12, none⟩ op nm vl kv) (hk : KidR K w kv ks) (ho : ∀ i, K i → i < w.heap.size) (hne : xb ≠ cb) (hs : s.size ≤ 1600000000000000) :
  Calls Tryz.prog 123 #[.pointer (some ⟨cb, 0, none⟩), .pointer (some ⟨xb, 12, none⟩)] w (CodPost w cb (s ++ textS (ftxt op nm vl ks)) (bad || !filOk op nm vl ks)) := by
 have hcb := lt_of_heap h
 have f0 := (Fr.same w).alloc (.cells #[.string ⟨#[]⟩] 9)
 have x0 := heap_alloc_self w (.cells #[.string ⟨#[]⟩] 9)
 have c0 : (w.alloc (.cells #[.string ⟨#[]⟩] 9)).cell? ⟨xb, 12, none⟩ = some (.int .i64 op) := f0.cel hp.c0
 have c1 : (w.alloc (.cells #[.string ⟨#[]⟩] 9)).cell? ⟨xb, 13, none⟩ = some (.string nm) := f0.cel hp.c1
 have c2 : (w.alloc (.cells #[.string ⟨#[]⟩] 9)).cell? ⟨xb, 14, none⟩ = some (.string vl) := f0.cel hp.c2
 have c3 : (w.alloc (.cells #[.string ⟨#[]⟩] 9)).cell? ⟨xb, 15, none⟩ = some kv := f0.cel hp.c3
 have PW := Lib.hid (print_walk op nm vl kv ks (hk.old f0) fun i hi => Nat.lt_of_lt_of_le (ho i hi) f0.size)
 obtain ⟨oa, cap, rfl, -⟩ := id hk
 have dd := fun j => cell_of (h.old f0) j
 have H0 := Lib.hid (h.old f0)
 have X0 := Lib.hid x0
 have F0 := Lib.hid f0
 unfold exV at PW
 clear f0 x0 h hp hk
 go_enter Tryz.func123, Tryz.ntmps123
 go_wp2_with fail
 generalize (w.alloc (.cells #[.string ⟨#[]⟩] 9)) = w0 at *
 refine PW.out.mono ?_
 rintro e w1 ⟨rfl, f1⟩
 have H1 := Lib.hid (H0.out.old f1)
 have X1 := Lib.hid ((f1.block _ (lt_of_heap X0.out) fun h => h).trans X0.out)
 have F1 := Lib.hid (F0.out.tr f1)
 have TS := Lib.hid (ftxt_size op nm vl ks)
 have FO := Lib.hid (show filOk op nm vl ks = (checkB op nm vl ks && okT (ftxt op nm vl ks) 60000) from rfl)
 clear f1 c0 c1 c2 c3 dd H0 X0 F0 PW
 rw [show (if checkB op nm vl ks = true then exS op nm vl ks else ⟨#[]⟩) = ftxt op nm vl ks from rfl]
 obtain ⟨ft, hft⟩ : ∃ ft, ft = ftxt op nm vl ks := ⟨_, rfl⟩
 rw [← hft] at FO TS
 rw [← hft]
 obtain ⟨fo, hfo⟩ : ∃ fo, fo = filOk op nm vl ks := ⟨_, rfl⟩
 rw [← hfo] at FO
 have EQ := Lib.hid (And.intro hft hfo)
 clear hft hfo
 cases hcb2 : checkB op nm vl ks
 all_goals
  rw [hcb2] at FO
  try simp only [if_true, if_false, Bool.false_eq_true]
  clear hcb2
 ·have W := Lib.hid (cwant_walk H1.out false)
  go_wp2_with fail
  refine W.out.mono ?_
  rintro e w3 ⟨rfl, h3, f3⟩
  have X3 := (f3.block _ (lt_of_heap X1.out) (by omega)).trans X1.out
  have dd := fun j => cell_of X3 j
  have fz := fun j => fz_of X3 j
  have hf4 : Fr (fun i => i = w.heap.size) w3 (w3.setCell ⟨w.heap.size, 0, none⟩ (.string ft)) := (Fr.refl (fun i => i = w.heap.size) w3).setCell (p := ⟨w.heap.size, 0, none⟩) (.inl rfl) _
  have x4 := heap_setCell_self X3 (o := 0) (.string ft)
  have h4 := h3.fr hf4 (by omega)
  have F4 := Lib.hid (((F1.out.mono (S' := fun i => i = cb) fun _ h => h.elim).trans f3 fun _ h => .inl h).trans hf4 fun i h => .inr (by omega))
  have W4 := Lib.hid (ctext_walk h4 ⟨w.heap.size, 0, none⟩ ft 60000 (by have := TS.out; omega) ((cell_of x4 0).trans rfl) (by show w.heap.size ≠ cb; omega) (by omega))
  rw [show ((bad || !false) || !okT ft 60000) = (bad || !fo) by rw [FO.out]; cases bad <;> rfl] at W4
  clear W h3 f3 X3 hf4 x4 h4
  go_wp2_with fail
  refine W4.out.mono ?_
  rintro e w5 ⟨rfl, h5, f5⟩
  have H5 := Lib.hid h5
  have F5 := Lib.hid (F4.out.trans f5 fun _ h => .inl h)
  have d5 := fun j => cell_of h5 j
  clear h5 f5 W4 dd fz
  go_wp2_with fail
  go_end0
  rw [EQ.out.1, EQ.out.2] at H5
  exact ⟨rfl, H5.out, F5.out⟩
 ·have W := Lib.hid (cwant_walk H1.out true)
  go_wp2_with fail
  refine W.out.mono ?_
  rintro e w3 ⟨rfl, h3, f3⟩
  have X3 := (f3.block _ (lt_of_heap X1.out) (by omega)).trans X1.out
  have dd := fun j => cell_of X3 j
  have fz := fun j => fz_of X3 j
  have hf4 : Fr (fun i => i = w.heap.size) w3 (w3.setCell ⟨w.heap.size, 0, none⟩ (.string ft)) := (Fr.refl (fun i => i = w.heap.size) w3).setCell (p := ⟨w.heap.size, 0, none⟩) (.inl rfl) _
  have x4 := heap_setCell_self X3 (o := 0) (.string ft)
  have h4 := h3.fr hf4 (by omega)
  have F4 := Lib.hid (((F1.out.mono (S' := fun i => i = cb) fun _ h => h.elim).trans f3 fun _ h => .inl h).trans hf4 fun i h => .inr (by omega))
  have W4 := Lib.hid (ctext_walk h4 ⟨w.heap.size, 0, none⟩ ft 60000 (by have := TS.out; omega) ((cell_of x4 0).trans rfl) (by show w.heap.size ≠ cb; omega) (by omega))
  rw [show ((bad || !true) || !okT ft 60000) = (bad || !fo) by rw [FO.out]; cases bad <;> rfl] at W4
  clear W h3 f3 X3 hf4 x4 h4
  go_wp2_with fail
  refine W4.out.mono ?_
  rintro e w5 ⟨rfl, h5, f5⟩
  have H5 := Lib.hid h5
  have F5 := Lib.hid (F4.out.trans f5 fun _ h => .inl h)
  have d5 := fun j => cell_of h5 j
  clear h5 f5 W4 dd fz
  go_wp2_with fail
  go_end0
  rw [EQ.out.1, EQ.out.2] at H5
  exact ⟨rfl, H5.out, F5.out⟩
/-- Texts side by side. -/
def StrsR (K : Nat → Prop) (w : World) (v : Value) (l : List ByteArray) : Prop := ∃ oa cap, v = .slice oa l.length cap ∧ l.length ≤ maxLen ∧ ∀ i x, l[i]? = some x → ∃ a, oa = some a ∧ K a.block ∧ w.cell? (a.add i) = some (.string x) ∧ x.size ≤ 150000000000000
theorem StrsR.fr {v : Value} {l : List ByteArray} (h : StrsR K w v l) (hf : Fr S w w') (hS : ∀ i, K i → ¬ S i) : StrsR K w' v l := by
 obtain ⟨oa, cap, rfl, hm, h1⟩ := h
 refine ⟨oa, cap, rfl, hm, fun i x hx => ?_⟩
 obtain ⟨a, e, hk, hc, hs⟩ := h1 i x hx
 have hb : (a.add i).block = a.block := by unfold Addr.add; split <;> rfl
 exact ⟨a, e, hk, hf.cell hc (by rw [hb]; exact hS _ hk), hs⟩
theorem StrsR.old {v : Value} {l : List ByteArray} (h : StrsR K w v l) (hf : Fr (fun _ => False) w w') : StrsR K w' v l := h.fr hf fun _ _ h => h
theorem StrsR.at {oa : Option Addr} {n cap : Nat} {l : List ByteArray} {i : Nat} {x : ByteArray} (h : StrsR K w (.slice oa n cap) l) (hx : l[i]? = some x) : ∃ a, oa = some a ∧ w.cell? (a.add i) = some (.string x) ∧ x.size ≤ 150000000000000 := by
 obtain ⟨oa', cap', e, hm, h1⟩ := h
 injection e with e1 e2 e3
 subst e1
 obtain ⟨a, e, -, hc, hs⟩ := h1 i x hx
 exact ⟨a, e, hc, hs⟩
set_option maxHeartbeats 16000000 in
theorem top1_walk (h : CodA w cb s bad) (bx : Nat) (hb : CBox w bx cb) (p : Addr) (t : ByteArray) (ht : t.size ≤ 150000000000000) (hp : w.cell? p = some (.string t)) (hne : p.block ≠ cb) (hs : s.size ≤ 2000000000000000) :
  Calls Tryz.prog 125 #[.pointer (some p), .pointer (some ⟨bx, 0, none⟩)] w (CodPost w cb (s ++ textS t) (bad || !okT t 100)) := by
 have TW := Lib.hid (ctext_walk h p t 100 (by omega) hp hne hs)
 have dd := cell_of hb
 clear hb h hp
 go_enter Tryz.func125, Tryz.ntmps125
 go_wp2_with fail
 refine TW.out.mono ?_
 rintro e w2 ⟨rfl, h2, f2⟩
 have H2 := Lib.hid h2
 have F2 := Lib.hid f2
 clear h2 f2 TW
 go_wp2_with fail
 go_end0
 exact ⟨rfl, H2.out, F2.out⟩
def catT : List ByteArray → ByteArray
 | [] => ⟨#[]⟩
 | x :: r => textS x ++ catT r
def topT (l : List ByteArray) : ByteArray := putS l.length ++ catT l
def topOk (l : List ByteArray) : Bool := okN l.length 0 20 && l.all fun x => okT x 100
theorem catT_snoc : ∀ (l : List ByteArray) (x : ByteArray), catT (l ++ [x]) = catT l ++ textS x
 | [], x => by
  show textS x ++ ByteArray.empty = ByteArray.empty ++ textS x
  rw [ByteArray.append_empty, ByteArray.empty_append]
 | y :: l, x => by
  show textS y ++ catT (l ++ [x]) = textS y ++ catT l ++ textS x
  rw [catT_snoc l x, ByteArray.append_assoc]
def ListSt (w0 wr : World) (cb bx nb : Nat) (s : ByteArray) (bad1 : Bool) (l : List ByteArray) (k : Nat) (s' : ByteArray) (b' : Bool) : Prop :=
 (k = 0 ∨ bad1 = false) ∧ b' = (bad1 || !((l.take k).all fun x => okT x 100)) ∧ (b' = false → s' = s ++ putS l.length ++ catT (l.take k) ∧ s'.size ≤ s.size + 10 + 110 * k) ∧ s'.size ≤ 2000000000000000 ∧
 CodA wr cb s' b' ∧ CBox wr bx cb ∧ wr.heap[nb]? = some (.cells #[.int .i64 (l.length : Int)] 3 (0, 0)) ∧ Fr (fun i => i = cb) w0 wr
set_option maxHeartbeats 32000000 in
theorem clist_walk (h : CodA w cb s bad) (tv : Value) (l : List ByteArray) (hx : w.cell? ⟨xb, 19, none⟩ = some tv) (hl : StrsR K w tv l) (hK : ¬ K cb) (bx : Nat) (hb : CBox w bx cb) (hbn : bx ≠ cb) (hne : xb ≠ cb) (hs : s.size ≤ 1600000000000000) :
  Calls Tryz.prog 124 #[.pointer (some ⟨cb, 0, none⟩), .pointer (some ⟨xb, 19, none⟩), .int .i64 20, .func (.func 125) #[] #[.pointer (some ⟨bx, 0, none⟩)]] w (CodIf w cb (s ++ topT l) (bad || !topOk l)) := by
 have hcb := lt_of_heap h
 have hbx := lt_of_heap hb
 obtain ⟨oa, cap, rfl, hml, -⟩ := id hl
 unfold maxLen at hml
 have hwf : (Lit.int .i64 (l.length : Int)).wf = true := by simp [Lit.wf, IntKind.min, IntKind.max, IntKind.signed, IntKind.bits]; omega
 have f0 := (Fr.same w).alloc (.cells #[.int .i64 (l.length : Int)] 3)
 have x0 := heap_alloc_self w (.cells #[.int .i64 (l.length : Int)] 3)
 have CW := Lib.hid (cnumber_walk (h.old f0) ⟨w.heap.size, 0, none⟩ l.length 0 20 hwf ((cell_of x0 0).trans rfl) (by show w.heap.size ≠ cb; omega) (by omega))
 have PS := Lib.hid (putS_size hwf)
 have X0 := Lib.hid x0
 have F0 := Lib.hid f0
 have B0 := Lib.hid (hb.fr f0 fun h => h)
 have LW := Lib.hid hl
 have HX := Lib.hid hx
 clear f0 x0 h hb hl hwf
 go_enter Tryz.func124, Tryz.ntmps124
 go_wp2_with fail
 generalize (w.alloc (.cells #[.int .i64 (l.length : Int)] 3)) = w0 at *
 clear hx
 refine CW.out.mono ?_
 rintro e w1 ⟨rfl, h1, f1⟩
 have d1 := fun j => cell_of h1 j
 have F1 := Lib.hid ((F0.out.mono (S' := fun i => i = cb) fun _ h => h.elim).trans f1 fun _ h => .inl h)
 have L1 := Lib.hid (show ListSt w w1 cb bx w.heap.size s (bad || !okN l.length 0 20) l 0 (s ++ putS l.length) (bad || !okN l.length 0 20) from
  ⟨.inl rfl, by simp, fun _ => ⟨by show _ = _ ++ ByteArray.empty; rw [ByteArray.append_empty], by rw [ByteArray.size_append]; have := PS.out; omega⟩, by rw [ByteArray.size_append]; have := PS.out; omega, h1, B0.out.fr f1 hbn, (f1.block _ (lt_of_heap X0.out) (by omega)).trans X0.out, F1.out⟩)
 have BD := Lib.hid (show (bad || !topOk l) = ((bad || !okN l.length 0 20) || !(l.all fun x => okT x 100)) by unfold topOk; cases bad <;> simp)
 have B20 := Lib.hid (show (bad || !okN l.length 0 20) = false → l.length ≤ 20 by intro h; cases bad <;> simp [okN] at h; omega)
 clear f1 h1 CW X0 F0 F1 B0
 go_wp2_with fail
 clear d1
 obtain ⟨bad1, hbad1⟩ : ∃ b, b = (bad || !okN l.length 0 20) := ⟨_, rfl⟩
 rw [← hbad1] at L1 BD B20
 clear hbad1
 obtain ⟨nb, hnb⟩ : ∃ b, b = w.heap.size := ⟨_, rfl⟩
 have HNB := Lib.hid (show nb ≠ cb by omega)
 rw [← hnb] at L1 ⊢
 clear hnb
 go_loopw [9] (fun i wr => ∃ (k : Nat) (s' : ByteArray) (b' : Bool), i = .int .i64 k ∧ k ≤ l.length ∧ ListSt w wr cb bx nb s bad1 l k s' b') (fun i _ => l.length - (intOf i).toNat)
 case atStart => exact ⟨0, _, _, rfl, Nat.zero_le _, L1.out⟩
 case round =>
  obtain ⟨k, s', b', rfl, hk, hS⟩ := hrel
  obtain ⟨hk0, hb', hs', hsz, hC, hB, hN, hF⟩ := hS
  have SS := Lib.hid (And.intro hk0 (And.intro hb' (And.intro hs' hsz)))
  have CC := Lib.hid hC
  have BB := Lib.hid hB
  have NN := Lib.hid hN
  have FF := Lib.hid hF
  have dd := cell_of hC
  have dn := cell_of hN 0
  clear hk0 hb' hs' hsz hC hB hN hF
  rcases Nat.lt_or_ge k l.length with hlt | hge
  ·cases b' with
   | true =>
    go_wp2_with fail
    go_end0
    have e : (bad || !topOk l) = true := by
     have h1 := SS.out.2.1
     rw [BD.out]
     cases hb1 : bad1 with
     | true => rfl
     | false =>
      rw [hb1] at h1
      simp only [Bool.false_or] at h1 ⊢
      have h2 : ((l.take k).all fun x => okT x 100) = false := by simpa using h1.symm
      have h3 : (l.all fun x => okT x 100) = false := by
       cases h4 : l.all fun x => okT x 100 with
       | false => rfl
       | true =>
        rw [List.all_eq_true] at h4
        have : ((l.take k).all fun x => okT x 100) = true := List.all_eq_true.2 fun x hx => h4 x (List.mem_of_mem_take hx)
        rw [this] at h2
        cases h2
      rw [h3]
      rfl
    rw [e]
    exact ⟨rfl, ⟨s', CC.out, (fun h => by cases h), by have := SS.out.2.2.2; omega⟩, FF.out⟩
   | false =>
    obtain ⟨t, ht⟩ := get_of_lt hlt
    have hxx := FF.out.cell HX.out (show ¬ xb = cb from hne)
    obtain ⟨a, rfl, hc, hts⟩ := (LW.out.fr FF.out fun i hi e => hK (e ▸ hi)).at ht
    have fa := (Fr.same wr).alloc (.cells #[.string t] 9)
    have xa := heap_alloc_self wr (.cells #[.string t] 9)
    have hwr := lt_of_heap CC.out
    have sz := (SS.out.2.2.1 rfl).2
    have hbad1 : bad1 = false := by
     have h1 := SS.out.2.1
     cases hb1 : bad1 with
     | false => rfl
     | true => rw [hb1] at h1; cases h1
    have h20 := B20.out hbad1
    have TW := Lib.hid (top1_walk (CC.out.old fa) bx (BB.out.fr fa fun h => h) ⟨wr.heap.size, 0, none⟩ t hts ((cell_of xa 0).trans rfl) (by show wr.heap.size ≠ cb; omega) (by omega))
    have HT := Lib.hid ht
    have HB1 := Lib.hid hbad1
    have FA := Lib.hid (FF.out.trans fa fun _ h => h.elim)
    have BA := Lib.hid (BB.out.fr fa fun h => h)
    have NA := Lib.hid (blk NN.out fa fun h => h)
    have SZ := Lib.hid sz
    have HTS := Lib.hid hts
    clear fa xa ht hbad1 sz hts
    go_wp2_with fail
    refine TW.out.mono ?_
    rintro e w4 ⟨rfl, h4, f4⟩
    have H4 := Lib.hid h4
    have F4 := Lib.hid (FA.out.trans f4 fun _ h => .inl h)
    have B4 := Lib.hid (BA.out.fr f4 hbn)
    have N4 := Lib.hid (blk NA.out f4 HNB.out)
    clear h4 f4 TW dd dn
    go_wp2_with fail
    go_roundw
    case rel =>
     have hsp := textS_sizeX (show t.size ≤ 1000000000000000000 by have := HTS.out; omega)
     have htk : l.take (k + 1) = l.take k ++ [t] := by rw [List.take_add_one, HT.out]; rfl
     refine ⟨k + 1, s' ++ textS t, _, by go_num, by omega, .inr HB1.out, ?_, ?_, ?_, H4.out, B4.out, N4.out, F4.out⟩
     ·have h1 := SS.out.2.1
      rw [HB1.out] at h1 ⊢
      simp only [Bool.false_or] at h1 ⊢
      have ht1 : ((l.take k).all fun x => okT x 100) = true := by
       cases h5 : ((l.take k).all fun x => okT x 100) with
       | true => rfl
       | false => rw [h5] at h1; cases h1
      rw [htk, List.all_append, ht1]
      simp
     ·intro hf
      obtain ⟨e1, e2⟩ := SS.out.2.2.1 trivial
      have ho : (t.size : Int) ≤ 100 := by simpa [okT] using hf
      refine ⟨?_, ?_⟩
      ·rw [htk, catT_snoc, e1, ByteArray.append_assoc]
      ·rw [ByteArray.size_append]; omega
     ·rw [ByteArray.size_append]; have := SZ.out; have := HTS.out; omega
    case measure => simp [intOf]; omega
  ·obtain rfl : k = l.length := by omega
   go_wp2_with fail
   go_end0
   have e : b' = (bad || !topOk l) := by rw [BD.out, SS.out.2.1, List.take_length]
   refine ⟨rfl, ⟨s', by rw [← e]; exact CC.out, fun hf => ?_, by have := SS.out.2.2.2; omega⟩, FF.out⟩
   rw [← e] at hf
   have := (SS.out.2.2.1 hf).1
   rw [this, List.take_length]
   unfold topT
   rw [ByteArray.append_assoc]
end
end Go.Proofs.YtfdhofabgdkkkaaGreatDoor
