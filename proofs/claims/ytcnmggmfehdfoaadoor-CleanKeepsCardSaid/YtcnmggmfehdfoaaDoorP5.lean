/- who, Check of a batch: the walks. -/
import Derived.Test.YtcnmggmfehdfoaaDoorP4
namespace Go.Proofs.YtcnmggmfehdfoaaDoor
open Go.RowKit Go.Fm Go.BigFrame
set_option linter.unusedVariables false
set_option linter.unusedSimpArgs false

def WhoOK (b : Bat) : Prop := (b.prod = -1 ∧ b.epoch = -1 ∧ b.seq = -1) ∨ (b.prod ≠ -1 ∧ (0 ≤ b.prod ∧ b.prod ≤ 1073741824) ∧ (0 ≤ b.epoch ∧ b.epoch ≤ 32768) ∧ 0 ≤ b.seq ∧ b.seq ≤ 1073741824)
structure RecIn (b : Bat) (k : Nat) (r : Rec) : Prop where
  ok : RecOK r
  lt : r.at' < b.span
  rise : ∀ p, 0 < k → b.recs[k - 1]? = some p → p.at' < r.at'
structure BatOK (b : Bat) : Prop where
  base0 : 0 ≤ b.base
  base1 : b.base ≤ 1099511627776
  span0 : 1 ≤ b.span
  span1 : b.span ≤ 50
  who : WhoOK b
  len : b.recs.length ≤ 50
  recs : ∀ k r, b.recs[k]? = some r → RecIn b k r
  body : (bodyS b).size ≤ 60000
theorem nums_of {b : Bat} (h0 : 0 ≤ b.base) (h1 : b.base ≤ 1099511627776) (h2 : 1 ≤ b.span) (h3 : b.span ≤ 50) (hw : WhoOK b) (hl : b.recs.length ≤ 50) : Nums b := by
  unfold WhoOK at hw
  refine ⟨?_, ?_, ?_, ?_, ?_, hl⟩
  all_goals (simp [Lit.wf, IntKind.min, IntKind.max, IntKind.signed, IntKind.bits]; omega)

set_option maxHeartbeats 4000000 in
theorem who_walk (b : Bat) (oa : Option Addr) (n cap : Nat) (w : World) :
    Calls Tryd.prog 31 #[batV b (.slice oa n cap)] w (IffPost (WhoOK b) w) := by
  obtain ⟨bbase, bspan, bprod, bepoch, bseq, brecs⟩ := b
  unfold batV WhoOK
  dsimp only
  have hf := (Fr.same w).alloc (.cells #[.int .i64 bbase, .int .i64 bspan, .int .i64 bprod, .int .i64 bepoch, .int .i64 bseq, .slice oa n cap] 29)
  by_cases hp : bprod = -1
  · subst hp
    by_cases he : bepoch = -1
    · subst he
      by_cases hq : bseq = -1
      · subst hq
        go_enter Tryd.func31, Tryd.ntmps31
        go_wp2_with fail
        go_ret
        exact ⟨true, rfl, by simp, hf⟩
      · have HQ := Lib.hid hq
        go_enter Tryd.func31, Tryd.ntmps31
        go_wp2_with fail
        go_ret
        refine ⟨_, rfl, ⟨fun h => ?_, fun h => ?_⟩, hf⟩
        · have := HQ.out; simp at h; omega
        · have := HQ.out; omega
    · have HE := Lib.hid he
      go_enter Tryd.func31, Tryd.ntmps31
      go_wp2_with fail
      go_ret
      exact ⟨false, rfl, ⟨fun h => (by cases h), fun h => by have := HE.out; omega⟩, hf⟩
  · have HP := Lib.hid hp
    by_cases hall : (0 ≤ bprod ∧ bprod ≤ 1073741824) ∧ (0 ≤ bepoch ∧ bepoch ≤ 32768) ∧ 0 ≤ bseq ∧ bseq ≤ 1073741824
    · have HALL := Lib.hid hall
      obtain ⟨⟨h1, h2⟩, ⟨h3, h4⟩, h5, h6⟩ := hall
      go_enter Tryd.func31, Tryd.ntmps31
      go_wp2_with fail
      go_ret
      exact ⟨true, rfl, ⟨fun _ => .inr ⟨HP.out, HALL.out⟩, fun _ => rfl⟩, hf⟩
    · have HALL := Lib.hid hall
      have hr2 : bprod < 0 ∨ (0 ≤ bprod ∧ 1073741824 < bprod) ∨ ((0 ≤ bprod ∧ bprod ≤ 1073741824) ∧ bepoch < 0) ∨ ((0 ≤ bprod ∧ bprod ≤ 1073741824) ∧ 0 ≤ bepoch ∧ 32768 < bepoch) ∨ ((0 ≤ bprod ∧ bprod ≤ 1073741824) ∧ (0 ≤ bepoch ∧ bepoch ≤ 32768) ∧ bseq < 0) ∨
          ((0 ≤ bprod ∧ bprod ≤ 1073741824) ∧ (0 ≤ bepoch ∧ bepoch ≤ 32768) ∧ 0 ≤ bseq ∧ 1073741824 < bseq) := by omega
      clear hall
      rcases hr2 with h1 | ⟨h1, h2⟩ | ⟨⟨h1, h2⟩, h3⟩ | ⟨⟨h1, h2⟩, h3, h4⟩ | ⟨⟨h1, h2⟩, ⟨h3, h4⟩, h5⟩ | ⟨⟨h1, h2⟩, ⟨h3, h4⟩, h5, h6⟩
      all_goals
        go_enter Tryd.func31, Tryd.ntmps31
        go_wp2_with fail
        go_ret
        first
          | exact ⟨false, rfl, ⟨fun h => (by cases h), fun h => by have := HALL.out; have := HP.out; omega⟩, hf⟩
          | (refine ⟨_, rfl, ⟨fun h => ?_, fun h => ?_⟩, hf⟩
             · simp at h; omega
             · have := HALL.out; have := HP.out; omega)

def BCheckPost (w : World) (b : Bat) (e : Ending) (w' : World) : Prop := ∃ c : Int, e = .returned (.int .i64 c) ∧ ((c = 0 ∧ BatOK b) ∨ (c = 1 ∧ ¬ BatOK b)) ∧ Fr (fun _ => False) w w'

set_option maxRecDepth 100000 in
set_option maxHeartbeats 8000000 in
theorem bcheck_walk (K : Nat → Prop) (b : Bat) (v : Value) (w : World) (h : RecsR K w v b.recs) :
    Calls Tryd.prog 24 #[batV b v] w (BCheckPost w b) := by
  have HR0 := Lib.hid h
  obtain ⟨oa, cap, rfl, hh⟩ := h
  have H := Lib.hid hh
  clear hh
  have hf0 := (Fr.same w).alloc (.cells (batCells b (.slice oa b.recs.length cap)).toArray 29)
  have dd := fun j => cell_alloc_new w (batCells b (.slice oa b.recs.length cap)).toArray 29 j
  unfold batCells at hf0 dd
  unfold batV
  by_cases hr : (0 ≤ b.base ∧ b.base ≤ 1099511627776) ∧ 1 ≤ b.span ∧ b.span ≤ 50
  · obtain ⟨⟨h1, h2⟩, h3, h4⟩ := hr
    have n1 : ¬ b.base < 0 := by omega
    have n2 : ¬ 1099511627776 < b.base := by omega
    have n3 : ¬ b.span < 1 := by omega
    have n4 : ¬ 50 < b.span := by omega
    have DD := Lib.hid dd
    have F0 := Lib.hid hf0
    clear dd hf0
    go_enter Tryd.func24, Tryd.ntmps24
    go_wp2_with fail
    refine (who_walk b oa b.recs.length cap _).mono ?_
    rintro e w2 ⟨c, rfl, hc, hf2⟩
    have HC := Lib.hid hc
    have F2 := Lib.hid (F0.out.tr hf2)
    have d : ∀ (j : Nat) (u : Value), (#[.int .i64 b.base, .int .i64 b.span, .int .i64 b.prod, .int .i64 b.epoch, .int .i64 b.seq, .slice oa b.recs.length cap] : Array Value)[j]? = some u → w2.cell? ⟨w.heap.size, j, none⟩ = some u := fun j u hj => hf2.cel ((DD.out j).trans hj)
    have d0 : w2.cell? ⟨w.heap.size, 0, none⟩ = some (.int .i64 b.base) := d 0 _ rfl
    have d1 : w2.cell? ⟨w.heap.size, 1, none⟩ = some (.int .i64 b.span) := d 1 _ rfl
    have d2 : w2.cell? ⟨w.heap.size, 2, none⟩ = some (.int .i64 b.prod) := d 2 _ rfl
    have d3 : w2.cell? ⟨w.heap.size, 3, none⟩ = some (.int .i64 b.epoch) := d 3 _ rfl
    have d4 : w2.cell? ⟨w.heap.size, 4, none⟩ = some (.int .i64 b.seq) := d 4 _ rfl
    have d5 : w2.cell? ⟨w.heap.size, 5, none⟩ = some (.slice oa b.recs.length cap) := d 5 _ rfl
    have D := Lib.hid d
    clear hc hf2 d DD F0
    cases c with
    | false =>
      have hno : ¬ WhoOK b := fun h => by have := HC.out.2 h; cases this
      have HNO := Lib.hid hno
      clear HC hno
      go_wp2_with fail
      go_ret
      exact ⟨1, rfl, .inr ⟨rfl, fun h => HNO.out h.who⟩, F2.out⟩
    | true =>
      have hwho := HC.out.1 rfl
      have HWHO := Lib.hid hwho
      clear HC hwho
      rcases Nat.lt_or_ge 50 b.recs.length with hbig | hlen
      · go_wp2_with fail
        go_ret
        exact ⟨1, rfl, .inr ⟨rfl, fun h => by have := h.len; omega⟩, F2.out⟩
      · have n5 : ¬ (50 : Int) < (b.recs.length : Int) := by omega
        go_wp2_with fail
        go_loopw [3] (fun i wr => ∃ k : Nat, i = .int .i64 k ∧ k ≤ b.recs.length ∧ (∀ j r, j < k → b.recs[j]? = some r → RecIn b j r) ∧ Fr (fun _ => False) w2 wr) (fun i _ => b.recs.length - (intOf i).toNat)
        case atStart => exact ⟨0, rfl, Nat.zero_le _, fun j r hj => by omega, Fr.same _⟩
        case round =>
          obtain ⟨k, rfl, hk, hok, hf⟩ := hrel
          have F := Lib.hid hf
          have HOK := Lib.hid hok
          have d0 := F.out.cel (D.out 0 _ rfl)
          have d1 : wr.cell? ⟨w.heap.size, 1, none⟩ = some (.int .i64 b.span) := F.out.cel (D.out 1 _ rfl)
          have d2 := F.out.cel (D.out 2 _ rfl)
          have d3 := F.out.cel (D.out 3 _ rfl)
          have d4 := F.out.cel (D.out 4 _ rfl)
          have d5 : wr.cell? ⟨w.heap.size, 5, none⟩ = some (.slice oa b.recs.length cap) := F.out.cel (D.out 5 _ rfl)
          clear hf hok d0 d2 d3 d4
          rcases Nat.lt_or_ge k b.recs.length with hlt | hge
          · obtain ⟨x, hx⟩ := get_of_lt hlt
            obtain ⟨a, hv, rfl, -, hcx, hhx⟩ := H.out k x hx
            have HX := Lib.hid hx
            have hcx2 := hcx.to ((F2.out.tr F.out).block _ hcx.lt fun h => h)
            have hh2 := hhx.old (F2.out.tr F.out)
            obtain ⟨ha, hcap, rfl, -⟩ := hhx
            obtain ⟨e0, e1, e2, e3, e4, e5, e6⟩ := hcx2
            have hf3 := (Fr.same wr).alloc (.cells (recCells x (.slice ha x.hs.length hcap)).toArray 39)
            have hx3 := fun j => cell_alloc_new wr (recCells x (.slice ha x.hs.length hcap)).toArray 39 j
            have hh3 := hh2.old hf3
            unfold recCells at hf3 hx3 hh3
            have F3 := Lib.hid hf3
            have X3 := Lib.hid hx3
            have HH3 := Lib.hid hh3
            clear hx hcx hh2 hf3 hx3 hh3
            go_wp2_with fail
            generalize (wr.alloc (.cells #[.int .i64 x.at', .int .i64 x.tm, .bool x.bare, .string x.key, .bool x.gone, .string x.val, .slice ha x.hs.length hcap] 39)) = W3 at *
            have xc : ∀ (j : Nat) (u : Value), (#[.int .i64 x.at', .int .i64 x.tm, .bool x.bare, .string x.key, .bool x.gone, .string x.val, .slice ha x.hs.length hcap] : Array Value)[j]? = some u → ∀ y : Lcl.InS (fun w' => Fr (fun _ => False) W3 w'), y.w.cell? ⟨wr.heap.size, j, none⟩ = some u := fun j u hj y => y.h.cel ((X3.out j).trans hj)
            have x0 : ∀ y : Lcl.InS (fun w' => Fr (fun _ => False) W3 w'), y.w.cell? ⟨wr.heap.size, 0, none⟩ = some (.int .i64 x.at') := xc 0 _ rfl
            have x1 : ∀ y : Lcl.InS (fun w' => Fr (fun _ => False) W3 w'), y.w.cell? ⟨wr.heap.size, 1, none⟩ = some (.int .i64 x.tm) := xc 1 _ rfl
            have x2 : ∀ y : Lcl.InS (fun w' => Fr (fun _ => False) W3 w'), y.w.cell? ⟨wr.heap.size, 2, none⟩ = some (.bool x.bare) := xc 2 _ rfl
            have x3 : ∀ y : Lcl.InS (fun w' => Fr (fun _ => False) W3 w'), y.w.cell? ⟨wr.heap.size, 3, none⟩ = some (.string x.key) := xc 3 _ rfl
            have x4 : ∀ y : Lcl.InS (fun w' => Fr (fun _ => False) W3 w'), y.w.cell? ⟨wr.heap.size, 4, none⟩ = some (.bool x.gone) := xc 4 _ rfl
            have x5 : ∀ y : Lcl.InS (fun w' => Fr (fun _ => False) W3 w'), y.w.cell? ⟨wr.heap.size, 5, none⟩ = some (.string x.val) := xc 5 _ rfl
            have x6 : ∀ y : Lcl.InS (fun w' => Fr (fun _ => False) W3 w'), y.w.cell? ⟨wr.heap.size, 6, none⟩ = some (.slice ha x.hs.length hcap) := xc 6 _ rfl
            have z1 : ∀ y : Lcl.InS (fun w' => Fr (fun _ => False) W3 w'), y.w.cell? ⟨w.heap.size, 1, none⟩ = some (.int .i64 b.span) := fun y => y.h.cel (F3.out.cel d1)
            have z5 : ∀ y : Lcl.InS (fun w' => Fr (fun _ => False) W3 w'), y.w.cell? ⟨w.heap.size, 5, none⟩ = some (.slice (some a) b.recs.length cap) := fun y => y.h.cel (F3.out.cel d5)
            clear xc e0 e1 e2 e3 e4 e5 e6 d1 d5
            by_cases hro : RecOK x
            · have f0 : ∀ y : Lcl.InS (fun w' => Fr (fun _ => False) W3 w'), Calls Tryd.prog 32 #[recV x (.slice ha x.hs.length hcap)] y.w fun e w' => e = .returned (.int .i64 0) ∧ ∃ y : Lcl.InS (fun w' => Fr (fun _ => False) W3 w'), w' = y.w := fun y => quietly y (rcheck_ok K x _ _ (HH3.out.old y.h) hro)
              unfold recV at f0
              have HRO := Lib.hid hro
              clear hro
              by_cases hsp : x.at' < b.span
              · have hsp' : ¬ b.span ≤ x.at' := by omega
                rcases Nat.eq_zero_or_pos k with hk0 | hkp
                · have hk0' : ¬ 0 < k := by omega
                  have hk0i : ¬ (0 : Int) < (k : Int) := by omega
                  refine wp_region_quiet (C := fun w' => ∃ y : Lcl.InS (fun w' => Fr (fun _ => False) W3 w'), w' = y.w) (by kernel_rfl) (by kernel_rfl) ⟨⟨W3.drew, (Fr.same W3).drew⟩, rfl⟩ ?_
                  dsimp only
                  repeat (go_big_quiet_step (first | with_reducible rfl | exact f0 _))
                  refine wpQuiet_nil ?_
                  rintro _ ⟨y, rfl⟩
                  have F4 := Lib.hid (F3.out.tr y.h)
                  clear x0 x1 x2 x3 x4 x5 x6 z1 z5 f0
                  generalize y.w = W4 at *
                  clear y
                  have HIN := Lib.hid (show RecIn b k x from ⟨HRO.out, hsp, fun p h => by omega⟩)
                  go_wp2_with fail
                  go_roundw
                  case rel =>
                    refine ⟨k + 1, by go_num, by omega, fun j r hj hjr => ?_, F.out.tr F4.out⟩
                    by_cases e : j = k
                    · subst e
                      rw [HX.out] at hjr
                      injection hjr with hjr
                      subst hjr
                      exact HIN.out
                    · exact HOK.out j r (by omega) hjr
                  case measure => simp [intOf]; omega
                · obtain ⟨p, hp⟩ := get_of_lt (show k - 1 < b.recs.length by omega)
                  obtain ⟨a', hv', ha', -, hcp, -⟩ := H.out (k - 1) p hp
                  injection ha' with ha'
                  subst ha'
                  have hkk : ((k : Int) - 1) = ((k - 1 : Nat) : Int) := by omega
                  have p0 : ∀ y : Lcl.InS (fun w' => Fr (fun _ => False) W3 w'), y.w.cell? (a.add ((k - 1) * 7)) = some (.int .i64 p.at') := fun y => y.h.cel (F3.out.cel (F.out.cel (F2.out.cel hcp.c0)))
                  have HP := Lib.hid hp
                  clear hcp hp
                  have hkpi : (0 : Int) < (k : Int) := by omega
                  by_cases hpr : p.at' < x.at'
                  · have hpr' : ¬ x.at' ≤ p.at' := by omega
                    refine wp_region_quiet (C := fun w' => ∃ y : Lcl.InS (fun w' => Fr (fun _ => False) W3 w'), w' = y.w) (by kernel_rfl) (by kernel_rfl) ⟨⟨W3.drew, (Fr.same W3).drew⟩, rfl⟩ ?_
                    dsimp only
                    repeat (go_big_quiet_step (first | with_reducible rfl | exact f0 _))
                    refine wpQuiet_nil ?_
                    rintro _ ⟨y, rfl⟩
                    have F4 := Lib.hid (F3.out.tr y.h)
                    clear x0 x1 x2 x3 x4 x5 x6 z1 z5 f0 p0
                    generalize y.w = W4 at *
                    clear y
                    have HIN := Lib.hid (show RecIn b k x from ⟨HRO.out, hsp, fun p' _ h' => by have h9 := HP.out; rw [h9] at h'; injection h' with h'; subst h'; exact hpr⟩)
                    go_wp2_with fail
                    go_roundw
                    case rel =>
                      refine ⟨k + 1, by go_num, by omega, fun j r hj hjr => ?_, F.out.tr F4.out⟩
                      by_cases e : j = k
                      · subst e
                        rw [HX.out] at hjr
                        injection hjr with hjr
                        subst hjr
                        exact HIN.out
                      · exact HOK.out j r (by omega) hjr
                    case measure => simp [intOf]; omega
                  · have hpr' : x.at' ≤ p.at' := by omega
                    refine wp_region_quiet (C := fun w' => ∃ y : Lcl.InS (fun w' => Fr (fun _ => False) W3 w'), w' = y.w) (by kernel_rfl) (by kernel_rfl) ⟨⟨W3.drew, (Fr.same W3).drew⟩, rfl⟩ ?_
                    dsimp only
                    repeat (go_big_quiet_step (first | with_reducible rfl | exact f0 _))
                    refine wpQuiet_nil ?_
                    rintro _ ⟨y, rfl⟩
                    have F4 := Lib.hid (F3.out.tr y.h)
                    clear x0 x1 x2 x3 x4 x5 x6 z1 z5 f0 p0
                    generalize y.w = W4 at *
                    clear y
                    have HBAD := Lib.hid (show ¬ BatOK b from fun h => hpr ((h.recs k x HX.out).rise p hkp HP.out))
                    go_wp2_with fail
                    go_ret
                    exact ⟨1, rfl, .inr ⟨rfl, HBAD.out⟩, (F2.out.tr F.out).tr F4.out⟩
              · have hsp' : b.span ≤ x.at' := by omega
                refine wp_region_quiet (C := fun w' => ∃ y : Lcl.InS (fun w' => Fr (fun _ => False) W3 w'), w' = y.w) (by kernel_rfl) (by kernel_rfl) ⟨⟨W3.drew, (Fr.same W3).drew⟩, rfl⟩ ?_
                dsimp only
                repeat (go_big_quiet_step (first | with_reducible rfl | exact f0 _))
                refine wpQuiet_nil ?_
                rintro _ ⟨y, rfl⟩
                have F4 := Lib.hid (F3.out.tr y.h)
                clear x0 x1 x2 x3 x4 x5 x6 z1 z5 f0
                generalize y.w = W4 at *
                clear y
                have HBAD := Lib.hid (show ¬ BatOK b from fun h => hsp (h.recs k x HX.out).lt)
                go_wp2_with fail
                go_ret
                exact ⟨1, rfl, .inr ⟨rfl, HBAD.out⟩, (F2.out.tr F.out).tr F4.out⟩
            · have f0 : ∀ y : Lcl.InS (fun w' => Fr (fun _ => False) W3 w'), Calls Tryd.prog 32 #[recV x (.slice ha x.hs.length hcap)] y.w fun e w' => e = .returned (.int .i64 1) ∧ ∃ y : Lcl.InS (fun w' => Fr (fun _ => False) W3 w'), w' = y.w := fun y => quietly y (rcheck_no K x _ _ (HH3.out.old y.h) hro)
              unfold recV at f0
              have HBAD := Lib.hid (show ¬ BatOK b from fun h => hro (h.recs k x HX.out).ok)
              clear hro
              refine wp_region_quiet (C := fun w' => ∃ y : Lcl.InS (fun w' => Fr (fun _ => False) W3 w'), w' = y.w) (by kernel_rfl) (by kernel_rfl) ⟨⟨W3.drew, (Fr.same W3).drew⟩, rfl⟩ ?_
              dsimp only
              repeat (go_big_quiet_step (first | with_reducible rfl | exact f0 _))
              refine wpQuiet_nil ?_
              rintro _ ⟨y, rfl⟩
              have F4 := Lib.hid (F3.out.tr y.h)
              clear x0 x1 x2 x3 x4 x5 x6 z1 z5 f0
              generalize y.w = W4 at *
              clear y
              go_wp2_with fail
              go_ret
              exact ⟨1, rfl, .inr ⟨rfl, HBAD.out⟩, (F2.out.tr F.out).tr F4.out⟩
          · have hall : ∀ k r, b.recs[k]? = some r → RecIn b k r := fun j r hj => HOK.out j r (by have := (List.getElem?_eq_some_iff.1 hj).1; omega) hj
            have HALL := Lib.hid hall
            have hnum := nums_of h1 h2 h3 h4 HWHO.out hlen
            have HNUM := Lib.hid hnum
            have hrok : ∀ r ∈ b.recs, RecOK r := fun r hr => by
              obtain ⟨j, hj⟩ := List.getElem?_of_mem hr
              exact (hall j r hj).ok
            have HROK := Lib.hid hrok
            have RB := Lib.hid (HR0.out.old (F2.out.tr F.out))
            have d0 : wr.cell? ⟨w.heap.size, 0, none⟩ = some (.int .i64 b.base) := F.out.cel (D.out 0 _ rfl)
            have d2 : wr.cell? ⟨w.heap.size, 2, none⟩ = some (.int .i64 b.prod) := F.out.cel (D.out 2 _ rfl)
            have d3 : wr.cell? ⟨w.heap.size, 3, none⟩ = some (.int .i64 b.epoch) := F.out.cel (D.out 3 _ rfl)
            have d4 : wr.cell? ⟨w.heap.size, 4, none⟩ = some (.int .i64 b.seq) := F.out.cel (D.out 4 _ rfl)
            clear hall hnum hrok
            go_wp2_with fail
            refine (body_walk K b _ _ RB.out HNUM.out HROK.out).mono ?_
            rintro e w7 ⟨rfl, hf7⟩
            have F7 := Lib.hid ((F2.out.tr F.out).tr hf7)
            clear hf7 d0 d1 d2 d3 d4 d5
            by_cases hsz : (bodyS b).size ≤ 60000
            · go_wp2_with fail
              go_ret
              exact ⟨0, rfl, .inl ⟨rfl, ⟨h1, h2, h3, h4, HWHO.out, hlen, HALL.out, hsz⟩⟩, F7.out⟩
            · have hsz2 : 60000 < (bodyS b).size := by omega
              go_wp2_with fail
              go_ret
              exact ⟨1, rfl, .inr ⟨rfl, fun h => by have := h.body; omega⟩, F7.out⟩
  · have hr2 : b.base < 0 ∨ (0 ≤ b.base ∧ 1099511627776 < b.base) ∨ ((0 ≤ b.base ∧ b.base ≤ 1099511627776) ∧ b.span < 1) ∨ ((0 ≤ b.base ∧ b.base ≤ 1099511627776) ∧ 1 ≤ b.span ∧ 50 < b.span) := by omega
    have HNO := Lib.hid hr
    clear hr dd
    rcases hr2 with h1 | ⟨h1, h2⟩ | ⟨⟨h1, h2⟩, h3⟩ | ⟨⟨h1, h2⟩, h3, h4⟩
    all_goals
      go_enter Tryd.func24, Tryd.ntmps24
      go_wp2_with fail
      go_ret
      exact ⟨1, rfl, .inr ⟨rfl, fun h => HNO.out ⟨⟨h.base0, h.base1⟩, h.span0, h.span1⟩⟩, hf0⟩
end Go.Proofs.YtcnmggmfehdfoaaDoor
