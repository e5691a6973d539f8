/- within, whose, the body of a batch, Check and Encode of a batch: the walks. -/
import Derived.Test.YtfdhofabgdkkkaaGreatDoorQ11
namespace Go.Proofs.YtfdhofabgdkkkaaGreatDoor
open Go.RowKit Go.Fm Go.BigFrame Go.Shelf
set_option linter.unusedVariables false
set_option linter.unusedSimpArgs false
def IffPost (P : Prop) (w : World) (e : Ending) (w' : World) : Prop := ∃ c : Bool, e = .returned (.bool c) ∧ (c = true ↔ P) ∧ Fr (fun _ => False) w w'
def WhoOK (b : Bat) : Prop := (b.prod = -1 ∧ b.epoch = -1 ∧ b.seq = -1) ∨ (b.prod ≠ -1 ∧ (0 ≤ b.prod ∧ b.prod ≤ 1073741824) ∧ (0 ≤ b.epoch ∧ b.epoch ≤ 32768) ∧ 0 ≤ b.seq ∧ b.seq ≤ 1073741824)
def bodyHead (b : Bat) : ByteArray := putS b.base ++ putS b.span ++ putS b.prod ++ putS b.epoch ++ putS b.seq ++ putS b.recs.length
def bodyTo (b : Bat) : Nat → ByteArray
 | 0 => bodyHead b
 | k + 1 => match b.recs[k]? with
  | some r => bodyTo b k ++ encS r
  | none => bodyTo b k
def bodyS (b : Bat) : ByteArray := bodyTo b b.recs.length
def lastAt (b : Bat) : Nat → Int
 | 0 => -1
 | k + 1 => match b.recs[k]? with
  | some r => r.at'
  | none => -1
structure RecIn (b : Bat) (k : Nat) (r : Rec) : Prop where
 ok : RecOK r
 lt : r.at' < b.span
 rise : lastAt b k < r.at'
structure BatOK (b : Bat) : Prop where
 base0 : 0 ≤ b.base
 base1 : b.base ≤ 1099511627776
 span0 : 1 ≤ b.span
 span1 : b.span ≤ 50
 who : WhoOK b
 len : b.recs.length ≤ 50
 recs : ∀ k r, b.recs[k]? = some r → RecIn b k r
 body : (bodyS b).size ≤ 60000
/-- The numbers of a batch fit. -/
structure Nums (b : Bat) : Prop where
 base : (Lit.int .i64 b.base).wf = true
 span : (Lit.int .i64 b.span).wf = true
 prod : (Lit.int .i64 b.prod).wf = true
 epoch : (Lit.int .i64 b.epoch).wf = true
 seq : (Lit.int .i64 b.seq).wf = true
 len : b.recs.length ≤ 50
theorem nums_of {b : Bat} (h0 : 0 ≤ b.base) (h1 : b.base ≤ 1099511627776) (h2 : 1 ≤ b.span) (h3 : b.span ≤ 50) (hw : WhoOK b) (hl : b.recs.length ≤ 50) : Nums b := by
 unfold WhoOK at hw
 refine ⟨?_, ?_, ?_, ?_, ?_, hl⟩
 all_goals (simp [Lit.wf, IntKind.min, IntKind.max, IntKind.signed, IntKind.bits]; omega)
theorem within_yes (n lo hi : Int) (w : World) (h : lo ≤ n ∧ n ≤ hi) : Calls Tryz.prog 196 #[.int .i64 n, .int .i64 lo, .int .i64 hi] w fun e w' => e = .returned (.bool true) ∧ w' = w := by
 obtain ⟨h1, h2⟩ := h
 go_enter Tryz.func196, Tryz.ntmps196
 go_wp2_with fail
 go_ret
 exact ⟨rfl, rfl⟩
theorem within_no (n lo hi : Int) (w : World) (h : ¬ (lo ≤ n ∧ n ≤ hi)) : Calls Tryz.prog 196 #[.int .i64 n, .int .i64 lo, .int .i64 hi] w fun e w' => e = .returned (.bool false) ∧ w' = w := by
 have h : n < lo ∨ (lo ≤ n ∧ hi < n ∧ decide (n ≤ hi) = false) := by simp; omega
 rcases h with h | ⟨h1, h2, h3⟩
 all_goals
  go_enter Tryz.func196, Tryz.ntmps196
  go_wp2_with fail
  go_ret
  exact ⟨rfl, rfl⟩
set_option maxHeartbeats 4000000 in
theorem who_walk (b : Bat) (oa : Option Addr) (n cap : Nat) (w : World) :
  Calls Tryz.prog 197 #[batV b (.slice oa n cap)] w (IffPost (WhoOK b) w) := by
 obtain ⟨bbase, bspan, bprod, bepoch, bseq, brecs⟩ := b
 unfold batV WhoOK
 dsimp only
 have hf := (Fr.same w).alloc (.cells #[.int .i64 bbase, .int .i64 bspan, .int .i64 bprod, .int .i64 bepoch, .int .i64 bseq, .slice oa n cap] 35)
 by_cases hp : bprod = -1
 ·subst hp
  by_cases he : bepoch = -1
  ·subst he
   by_cases hq : bseq = -1
   ·subst hq
    go_enter Tryz.func197, Tryz.ntmps197
    go_wp2_with fail
    go_ret
    exact ⟨true, rfl, by simp, hf⟩
   ·have HQ := Lib.hid hq
    go_enter Tryz.func197, Tryz.ntmps197
    go_wp2_with fail
    go_ret
    refine ⟨_, rfl, ⟨fun h => ?_, fun h => ?_⟩, hf⟩
    ·have := HQ.out; simp at h; omega
    ·have := HQ.out; omega
  ·have HE := Lib.hid he
   go_enter Tryz.func197, Tryz.ntmps197
   go_wp2_with fail
   go_ret
   exact ⟨false, rfl, ⟨fun h => (by cases h), fun h => by have := HE.out; omega⟩, hf⟩
 ·have HP := Lib.hid hp
  go_enter Tryz.func197, Tryz.ntmps197
  go_wp2_with fail
  by_cases h1 : 0 ≤ bprod ∧ bprod ≤ 1073741824
  ·refine (within_yes _ _ _ _ h1).mono ?_
   rintro e w' ⟨rfl, rfl⟩
   have H1 := Lib.hid h1
   clear h1
   go_wp2_with fail
   by_cases h2 : 0 ≤ bepoch ∧ bepoch ≤ 32768
   ·refine (within_yes _ _ _ _ h2).mono ?_
    rintro e w' ⟨rfl, rfl⟩
    have H2 := Lib.hid h2
    clear h2
    go_wp2_with fail
    by_cases h3 : 0 ≤ bseq ∧ bseq ≤ 1073741824
    ·refine (within_yes _ _ _ _ h3).mono ?_
     rintro e w' ⟨rfl, rfl⟩
     have H3 := Lib.hid h3
     clear h3
     go_wp2_with fail
     go_ret
     exact ⟨true, rfl, ⟨fun _ => .inr ⟨HP.out, H1.out, H2.out, H3.out⟩, fun _ => rfl⟩, hf⟩
    ·refine (within_no _ _ _ _ h3).mono ?_
     rintro e w' ⟨rfl, rfl⟩
     have H3 := Lib.hid h3
     clear h3
     go_wp2_with fail
     go_ret
     exact ⟨false, rfl, ⟨fun h => (by cases h), fun h => by have := HP.out; have := H3.out; omega⟩, hf⟩
   ·refine (within_no _ _ _ _ h2).mono ?_
    rintro e w' ⟨rfl, rfl⟩
    have H2 := Lib.hid h2
    clear h2
    go_wp2_with fail
    go_ret
    exact ⟨false, rfl, ⟨fun h => (by cases h), fun h => by have := HP.out; have := H2.out; omega⟩, hf⟩
  ·refine (within_no _ _ _ _ h1).mono ?_
   rintro e w' ⟨rfl, rfl⟩
   have H1 := Lib.hid h1
   clear h1
   go_wp2_with fail
   go_ret
   exact ⟨false, rfl, ⟨fun h => (by cases h), fun h => by have := HP.out; have := H1.out; omega⟩, hf⟩
/-- The batch's box. -/
def batObj (b : Bat) (rv : Value) : Obj := .cells #[.int .i64 b.base, .int .i64 b.span, .int .i64 b.prod, .int .i64 b.epoch, .int .i64 b.seq, rv] 35 (0, 0)
def BodyPost (w : World) (b : Bat) (e : Ending) (w' : World) : Prop := ∃ (s : ByteArray) (c : Bool), e = .returned (.tuple #[.string s, .bool c]) ∧ ((c = true ∧ BatOK b ∧ s = bodyS b) ∨ (c = false ∧ ¬ BatOK b)) ∧ Fr (fun _ => False) w w'
theorem body_bad {w w' : World} {b : Bat} (h : ¬ BatOK b) (hf : Fr (fun _ => False) w w') (s : ByteArray) : BodyPost w b (.returned (.tuple #[.string s, .bool false])) w' := ⟨s, false, rfl, .inr ⟨rfl, h⟩, hf⟩
set_option maxRecDepth 100000 in
set_option maxHeartbeats 16000000 in
theorem body_walk (K : Nat → Prop) (b : Bat) (v : Value) (w : World) (h : RecsR K w v b.recs) :
  Calls Tryz.prog 129 #[batV b v] w (BodyPost w b) := by
 obtain ⟨oa, cap, rfl, h⟩ := h
 have H := Lib.hid h
 have OB := Lib.hid (heap_alloc_self w (batObj b (.slice oa b.recs.length cap)))
 have FA := Lib.hid ((Fr.same w).alloc (batObj b (.slice oa b.recs.length cap)))
 clear h
 have BAD := Lib.hid (fun hn w' hf s => @body_bad w w' b hn hf s)
 have hnat : Hid (∀ hn : b.recs.length ≤ 50, b.recs.length ≤ 50) := Lib.hid fun h => h
 unfold batV
 go_enter Tryz.func129, Tryz.ntmps129
 go_wp2_with fail
 by_cases h1 : 0 ≤ b.base ∧ b.base ≤ 1099511627776
 ·refine (within_yes _ _ _ _ h1).mono ?_
  rintro e w' ⟨rfl, rfl⟩
  have H1 := Lib.hid h1
  clear h1
  go_wp2_with fail
  by_cases h2 : 1 ≤ b.span ∧ b.span ≤ 50
  ·refine (within_yes _ _ _ _ h2).mono ?_
   rintro e w' ⟨rfl, rfl⟩
   have H2 := Lib.hid h2
   clear h2
   go_wp2_with fail
   refine (who_walk b _ _ _ _).mono ?_
   rintro e w2 ⟨c, rfl, hc, hf2⟩
   have HC := Lib.hid hc
   have F2 := Lib.hid (FA.out.tr hf2)
   have OB2 := Lib.hid ((hf2.block _ (lt_of_heap OB.out) fun h => h).trans OB.out)
   clear hc hf2 FA OB
   cases c with
   | false =>
    have hno : ¬ BatOK b := fun h => by have := HC.out.2 h.who; cases this
    have HNO := Lib.hid hno
    clear HC hno
    go_wp2_with fail
    go_ret2
    exact BAD.out HNO.out _ F2.out _
   | true =>
    have HWHO := Lib.hid (HC.out.1 rfl)
    clear HC
    have d5 := (cell_of OB2.out 5).trans rfl
    simp [batObj] at d5
    rcases Nat.lt_or_ge 50 b.recs.length with hbig | hlen
    ·go_wp2_with fail
     go_ret2
     exact BAD.out (fun h => by have := h.len; omega) _ F2.out _
    ·have n5 : ¬ (50 : Int) < (b.recs.length : Int) := by omega
     have d0 : w2.cell? ⟨w.heap.size, 0, none⟩ = some (.int .i64 b.base) := (cell_of OB2.out 0).trans rfl
     have d1 : w2.cell? ⟨w.heap.size, 1, none⟩ = some (.int .i64 b.span) := (cell_of OB2.out 1).trans rfl
     have d2 : w2.cell? ⟨w.heap.size, 2, none⟩ = some (.int .i64 b.prod) := (cell_of OB2.out 2).trans rfl
     have d3 : w2.cell? ⟨w.heap.size, 3, none⟩ = some (.int .i64 b.epoch) := (cell_of OB2.out 3).trans rfl
     have d4 : w2.cell? ⟨w.heap.size, 4, none⟩ = some (.int .i64 b.seq) := (cell_of OB2.out 4).trans rfl
     have NU := Lib.hid (nums_of H1.out.1 H1.out.2 H2.out.1 H2.out.2 HWHO.out hlen)
     have s0 := putS_size NU.out.base
     have s1 := putS_size NU.out.span
     have s2 := putS_size NU.out.prod
     have s3 := putS_size NU.out.epoch
     have s4 := putS_size NU.out.seq
     have s5 := putS_size (len_wf (show b.recs.length ≤ 1000000000 by omega))
     have HH : Hid (bodyTo b 0 = putS b.base ++ putS b.span ++ putS b.prod ++ putS b.epoch ++ putS b.seq ++ putS b.recs.length) := Lib.hid rfl
     have HS0 : Hid ((bodyTo b 0).size ≤ 3000) := Lib.hid (by rw [HH.out, ByteArray.size_append, ByteArray.size_append, ByteArray.size_append, ByteArray.size_append, ByteArray.size_append]; omega)
     have HLEN := Lib.hid hlen
     have i0 : ∀ w : World, (Instr.index 303 (.agg #[.int .i64 b.base, .int .i64 b.span, .int .i64 b.prod, .int .i64 b.epoch, .int .i64 b.seq, .int .i64 b.recs.length]) (.int .i64 0)).run Tryz.prog w = .ok (.int .i64 b.base) w := fun _ => by kernel_rfl
     have i1 : ∀ w : World, (Instr.index 303 (.agg #[.int .i64 b.base, .int .i64 b.span, .int .i64 b.prod, .int .i64 b.epoch, .int .i64 b.seq, .int .i64 b.recs.length]) (.int .i64 1)).run Tryz.prog w = .ok (.int .i64 b.span) w := fun _ => by kernel_rfl
     have i2 : ∀ w : World, (Instr.index 303 (.agg #[.int .i64 b.base, .int .i64 b.span, .int .i64 b.prod, .int .i64 b.epoch, .int .i64 b.seq, .int .i64 b.recs.length]) (.int .i64 2)).run Tryz.prog w = .ok (.int .i64 b.prod) w := fun _ => by kernel_rfl
     have i3 : ∀ w : World, (Instr.index 303 (.agg #[.int .i64 b.base, .int .i64 b.span, .int .i64 b.prod, .int .i64 b.epoch, .int .i64 b.seq, .int .i64 b.recs.length]) (.int .i64 3)).run Tryz.prog w = .ok (.int .i64 b.epoch) w := fun _ => by kernel_rfl
     have i4 : ∀ w : World, (Instr.index 303 (.agg #[.int .i64 b.base, .int .i64 b.span, .int .i64 b.prod, .int .i64 b.epoch, .int .i64 b.seq, .int .i64 b.recs.length]) (.int .i64 4)).run Tryz.prog w = .ok (.int .i64 b.seq) w := fun _ => by kernel_rfl
     have i5 : ∀ w : World, (Instr.index 303 (.agg #[.int .i64 b.base, .int .i64 b.span, .int .i64 b.prod, .int .i64 b.epoch, .int .i64 b.seq, .int .i64 b.recs.length]) (.int .i64 5)).run Tryz.prog w = .ok (.int .i64 b.recs.length) w := fun _ => by kernel_rfl
     clear hlen
     go_wp2_with fail
     clear d0 d1 d2 d3 d4 d5
     refine wp_loop_rounds 7 ?_
     rw [rounds_succ]
     go_wp2_with fail
     refine (put_walk _ _ NU.out.base).mono ?_
     rintro e wp0 ⟨rfl, hfp⟩
     have F3 := Lib.hid (F2.out.tr hfp)
     have OB3 := Lib.hid ((hfp.block _ (lt_of_heap OB2.out) fun h => h).trans OB2.out)
     clear hfp F2 OB2
     go_wp2_with fail
     rw [rounds_succ]
     go_wp2_with fail
     refine (put_walk _ _ NU.out.span).mono ?_
     rintro e wp1 ⟨rfl, hfp⟩
     have F4 := Lib.hid (F3.out.tr hfp)
     have OB4 := Lib.hid ((hfp.block _ (lt_of_heap OB3.out) fun h => h).trans OB3.out)
     clear hfp F3 OB3
     go_wp2_with fail
     rw [rounds_succ]
     go_wp2_with fail
     refine (put_walk _ _ NU.out.prod).mono ?_
     rintro e wp2 ⟨rfl, hfp⟩
     have F5 := Lib.hid (F4.out.tr hfp)
     have OB5 := Lib.hid ((hfp.block _ (lt_of_heap OB4.out) fun h => h).trans OB4.out)
     clear hfp F4 OB4
     go_wp2_with fail
     rw [rounds_succ]
     go_wp2_with fail
     refine (put_walk _ _ NU.out.epoch).mono ?_
     rintro e wp3 ⟨rfl, hfp⟩
     have F6 := Lib.hid (F5.out.tr hfp)
     have OB6 := Lib.hid ((hfp.block _ (lt_of_heap OB5.out) fun h => h).trans OB5.out)
     clear hfp F5 OB5
     go_wp2_with fail
     rw [rounds_succ]
     go_wp2_with fail
     refine (put_walk _ _ NU.out.seq).mono ?_
     rintro e wp4 ⟨rfl, hfp⟩
     have F7 := Lib.hid (F6.out.tr hfp)
     have OB7 := Lib.hid ((hfp.block _ (lt_of_heap OB6.out) fun h => h).trans OB6.out)
     clear hfp F6 OB6
     go_wp2_with fail
     rw [rounds_succ]
     go_wp2_with fail
     refine (put_walk _ _ (len_wf (show b.recs.length ≤ 1000000000 from Nat.le_trans HLEN.out (by decide)))).mono ?_
     rintro e wp5 ⟨rfl, hfp⟩
     have F8 := Lib.hid (F7.out.tr hfp)
     have OB8 := Lib.hid ((hfp.block _ (lt_of_heap OB7.out) fun h => h).trans OB7.out)
     clear hfp F7 OB7
     go_wp2_with fail
     rw [rounds_succ]
     clear i0 i1 i2 i3 i4 i5 s0 s1 s2 s3 s4 s5
     generalize hW8 : wp5 = W8 at *
     clear hW8
     have D5 : W8.cell? ⟨w.heap.size, 5, none⟩ = some (.slice oa b.recs.length cap) := (cell_of OB8.out 5).trans rfl
     go_wp2_with fail
     have hT : ({ data := #[] } : ByteArray) ++ putS b.base ++ putS b.span ++ putS b.prod ++ putS b.epoch ++ putS b.seq ++ putS b.recs.length = bodyTo b 0 := by
      rw [HH.out, show (⟨#[]⟩ : ByteArray) ++ putS b.base = putS b.base from ByteArray.empty_append]
     rw [hT]
     clear D5 hT HH
     go_loopw [4, 7, 58] (fun sv lv iv wr => ∃ k : Nat, iv = .int .i64 k ∧ k ≤ b.recs.length ∧ sv = .string (bodyTo b k) ∧ lv = .int .i64 (lastAt b k) ∧ (bodyTo b k).size ≤ 3000 + 24000 * k ∧ (∀ j r, j < k → b.recs[j]? = some r → RecIn b j r) ∧ Fr (fun _ => False) W8 wr) (fun _ _ iv _ => b.recs.length - (intOf iv).toNat)
     case atStart => exact ⟨0, rfl, Nat.zero_le _, rfl, rfl, HS0.out, fun j r hj => by omega, Fr.same _⟩
     case round =>
      obtain ⟨k, rfl, hk, rfl, rfl, hsz, hok, hf⟩ := hrel
      have F := Lib.hid (F8.out.tr hf)
      have HOK := Lib.hid hok
      have OBr := Lib.hid ((hf.block _ (lt_of_heap OB8.out) fun h => h).trans OB8.out)
      have d1 : wr.cell? ⟨w.heap.size, 1, none⟩ = some (.int .i64 b.span) := (cell_of OBr.out 1).trans rfl
      have FW := Lib.hid hf
      clear hf hok
      rcases Nat.lt_or_ge k b.recs.length with hlt | hge
      ·obtain ⟨x, hx⟩ := get_of_lt hlt
       obtain ⟨a, hv, rfl, -, hcx, hhx⟩ := H.out k x hx
       have hcx2 := hcx.to (F.out.block _ hcx.lt fun h => h)
       have hh2 := hhx.old F.out
       obtain ⟨ha, hcap, rfl, -⟩ := hhx
       obtain ⟨e0, e1, e2, e3, e4, e5, e6⟩ := hcx2
       have HX := Lib.hid hx
       have OX := Lib.hid (heap_alloc_self wr (recObj x (.slice ha x.hs.length hcap)))
       have FX0 := Lib.hid ((Fr.same wr).alloc (recObj x (.slice ha x.hs.length hcap)))
       have HHX := Lib.hid (hh2.old FX0.out)
       clear hcx hh2 hx
       go_wp2_with fail
       clear e0 e1 e2 e3 e4 e5 e6
       by_cases hro : RecOK x
       ·refine (encode_walk K x _ _ HHX.out hro).mono ?_
        rintro e wy ⟨rfl, hfy⟩
        have hes := encS_size hro
        have HRO := Lib.hid hro
        have FY := Lib.hid (F.out.tr (FX0.out.tr hfy))
        have FYW := Lib.hid (FW.out.tr (FX0.out.tr hfy))
        have e0 : wy.cell? ⟨wr.heap.size, 0, none⟩ = some (.int .i64 x.at') := hfy.cel ((cell_of OX.out 0).trans rfl)
        have d1 : wy.cell? ⟨w.heap.size, 1, none⟩ = some (.int .i64 b.span) := (FX0.out.tr hfy).cel ((cell_of OBr.out 1).trans rfl)
        clear hro hfy
        by_cases hl : lastAt b k < x.at'
        ·by_cases hsp : x.at' < b.span
         ·have q1 : ¬ x.at' ≤ lastAt b k := by omega
          have q2 : ¬ b.span ≤ x.at' := by omega
          have HTO : Hid (bodyTo b (k + 1) = bodyTo b k ++ encS x ∧ lastAt b (k + 1) = x.at') := Lib.hid (by simp [bodyTo, lastAt, HX.out])
          have HIN : Hid (RecIn b k x) := Lib.hid ⟨HRO.out, hsp, hl⟩
          clear hl hsp
          go_wp2_with fail
          clear e0 d1
          go_roundw
          case rel =>
           refine ⟨k + 1, by go_num, by omega, by rw [HTO.out.1], by rw [HTO.out.2], by rw [HTO.out.1, ByteArray.size_append]; omega, ?_, FYW.out⟩
           intro j r hj hjr
           rcases Nat.lt_succ_iff_lt_or_eq.1 hj with h9 | h9
           ·exact HOK.out j r h9 hjr
           ·subst h9
            have := HX.out.symm.trans hjr
            injection this with this
            subst this
            exact HIN.out
          case measure => simp [intOf]; omega
         ·have q1 : ¬ x.at' ≤ lastAt b k := by omega
          have q2 : b.span ≤ x.at' := by omega
          have hno : ¬ BatOK b := fun h => hsp (h.recs k x HX.out).lt
          have HNO := Lib.hid hno
          clear hno hl hsp
          go_wp2_with fail
          go_ret2
          exact BAD.out HNO.out _ FY.out _
        ·have q1 : x.at' ≤ lastAt b k := by omega
         have hno : ¬ BatOK b := fun h => hl (h.recs k x HX.out).rise
         have HNO := Lib.hid hno
         clear hno hl
         go_wp2_with fail
         go_ret2
         exact BAD.out HNO.out _ FY.out _
       ·refine (encode_no K x _ _ HHX.out hro).mono ?_
        rintro e wy ⟨rfl, hfy⟩
        have hno : ¬ BatOK b := fun h => hro (h.recs k x HX.out).ok
        have HNO := Lib.hid hno
        have FY := Lib.hid (F.out.tr (FX0.out.tr hfy))
        clear hno hro hfy
        go_wp2_with fail
        go_ret2
        exact BAD.out HNO.out _ FY.out _
      ·have hkl : k = b.recs.length := by omega
       subst hkl
       have hall := HOK.out
       have HB : Hid ((bodyS b).size ≤ 60000 → BatOK b) := Lib.hid fun h => ⟨H1.out.1, H1.out.2, H2.out.1, H2.out.2, HWHO.out, HLEN.out, fun k r hr => hall k r (List.getElem?_eq_some_iff.1 hr).1 hr, h⟩
       have hEq : bodyS b = bodyTo b b.recs.length := rfl
       clear hall
       by_cases hfit : (bodyTo b b.recs.length).size ≤ 60000
       ·have HF := Lib.hid (HB.out hfit)
        have hfi : ((bodyTo b b.recs.length).size : Int) ≤ 60000 := by omega
        clear hfit
        go_wp2_with fail
        go_ret2
        exact ⟨_, true, rfl, .inl ⟨rfl, HF.out, rfl⟩, F.out⟩
       ·have hno : ¬ BatOK b := fun h => hfit h.body
        have HNO := Lib.hid hno
        have hfi : ¬ ((bodyTo b b.recs.length).size : Int) ≤ 60000 := by omega
        have hfd : decide (((bodyTo b b.recs.length).size : Int) ≤ 60000) = false := by simpa using hfi
        clear hno hfit
        go_wp2_with fail
        go_ret2
        refine ⟨bodyTo b b.recs.length, false, ?_, .inr ⟨rfl, HNO.out⟩, F.out⟩
        first
         | rfl
         | (show Ending.returned (Value.tuple #[.string (bodyTo b b.recs.length), .bool (decide (((bodyTo b b.recs.length).size : Int) ≤ 60000))]) = _
            rw [hfd])
  ·refine (within_no _ _ _ _ h2).mono ?_
   rintro e w' ⟨rfl, rfl⟩
   have H2 := Lib.hid h2
   clear h2
   go_wp2_with fail
   go_ret2
   exact BAD.out (fun h => H2.out ⟨h.span0, h.span1⟩) _ FA.out _
 ·refine (within_no _ _ _ _ h1).mono ?_
  rintro e w' ⟨rfl, rfl⟩
  have H1 := Lib.hid h1
  clear h1
  go_wp2_with fail
  go_ret2
  exact BAD.out (fun h => H1.out ⟨h.base0, h.base1⟩) _ FA.out _
def BCheckPost (w : World) (b : Bat) (e : Ending) (w' : World) : Prop := ∃ c : Int, e = .returned (.int .i64 c) ∧ ((c = 0 ∧ BatOK b) ∨ (c = 1 ∧ ¬ BatOK b)) ∧ Fr (fun _ => False) w w'
set_option maxHeartbeats 1000000 in
theorem bcheck_walk (K : Nat → Prop) (b : Bat) (v : Value) (w : World) (h : RecsR K w v b.recs) : Calls Tryz.prog 202 #[batV b v] w (BCheckPost w b) := by
 have HB := Lib.hid (body_walk K b v _ (h.old ((Fr.same w).alloc (batObj b v))))
 have FA := Lib.hid ((Fr.same w).alloc (batObj b v))
 clear h
 unfold batV batObj at *
 go_enter Tryz.func202, Tryz.ntmps202
 go_wp2_with fail
 refine HB.out.mono ?_
 rintro e w2 ⟨s, c, rfl, hc, hf⟩
 have F := Lib.hid (FA.out.tr hf)
 clear hf HB
 rcases hc with ⟨rfl, h1, -⟩ | ⟨rfl, h1⟩
 ·have HH := Lib.hid h1
  clear h1
  go_wp2_with fail
  go_ret
  exact ⟨0, rfl, .inl ⟨rfl, HH.out⟩, F.out⟩
 ·have HH := Lib.hid h1
  clear h1
  go_wp2_with fail
  go_ret
  exact ⟨1, rfl, .inr ⟨rfl, HH.out⟩, F.out⟩
theorem fix4_size (n : Nat) : (fix4 n).size = 4 := rfl
/-- A batch as bytes. -/
def batS (b : Bat) : ByteArray := fix4 (bodyS b).size ++ fix4 (sumS (bodyS b)).toNat ++ bodyS b
def BEncPost (w : World) (b : Bat) (e : Ending) (w' : World) : Prop := ((BatOK b ∧ e = .returned (.tuple #[.string (batS b), .int .i64 0])) ∨ (¬ BatOK b ∧ e = .returned (.tuple #[.string ByteArray.empty, .int .i64 1]))) ∧ Fr (fun _ => False) w w'
set_option maxHeartbeats 4000000 in
set_option maxRecDepth 100000 in
theorem bencode_walk (K : Nat → Prop) (b : Bat) (v : Value) (w : World) (h : RecsR K w v b.recs) (hs : StepsOK w) : Calls Tryz.prog 75 #[batV b v] w (BEncPost w b) := by
 have HB := Lib.hid (body_walk K b v _ (h.old ((Fr.same w).alloc (batObj b v))))
 have FA := Lib.hid ((Fr.same w).alloc (batObj b v))
 have HS := Lib.hid hs
 clear h hs
 unfold batV batObj at *
 go_enter Tryz.func75, Tryz.ntmps75
 go_wp2_with fail
 refine HB.out.mono ?_
 rintro e w2 ⟨s, c, rfl, hc, hf⟩
 have F := Lib.hid (FA.out.tr hf)
 clear hf HB
 rcases hc with ⟨rfl, h1, rfl⟩ | ⟨rfl, h1⟩
 ·have HH := Lib.hid h1
  have hsz := h1.body
  have s1 := fix4_size (bodyS b).size
  have s2 := fix4_size (sumS (bodyS b)).toNat
  clear h1
  have hsum := sumS_in (bodyS b)
  obtain ⟨m, hm⟩ : ∃ m : Nat, sumS (bodyS b) = m := ⟨(sumS (bodyS b)).toNat, by omega⟩
  have HM := Lib.hid hm
  go_wp2_with fail
  refine (fixed_walk _ (by omega) _).mono ?_
  rintro e w3 ⟨rfl, hf3⟩
  have F3 := Lib.hid (F.out.tr hf3)
  clear hf3
  go_wp2_with fail
  refine (sum_walk _ _ (by unfold maxLen; omega) (HS.out.old F3.out)).mono ?_
  rintro e w4 ⟨rfl, hf4⟩
  have F4 := Lib.hid (F3.out.tr hf4)
  clear hf4
  rw [hm]
  have hml : m < 4294967296 := by omega
  have hmw : IntKind.i64.wrap (m : Int) = m := by
   simp only [IntKind.wrap_i64]
   omega
  have HT : Hid (batS b = fix4 (bodyS b).size ++ fix4 m ++ bodyS b) := Lib.hid (by unfold batS; rw [HM.out]; rfl)
  have s2 := fix4_size m
  clear hm hsum
  go_wp2_with fail
  refine (fixed_walk m hml _).mono ?_
  rintro e w5 ⟨rfl, hf5⟩
  have F5 := Lib.hid (F4.out.tr hf5)
  clear hf5
  go_wp2_with fail
  go_ret2
  exact ⟨.inl ⟨HH.out, by rw [HT.out]; rfl⟩, F5.out⟩
 ·have HH := Lib.hid h1
  clear h1
  go_wp2_with fail
  go_ret2
  exact ⟨.inr ⟨HH.out, rfl⟩, F.out⟩
end Go.Proofs.YtfdhofabgdkkkaaGreatDoor
