/- SegmentAgain: the walk. -/
import Derived.Test.YtgbcdgfpmihkcaaGreatDoorGE
import Derived.Test.YtgbcdgfpmihkcaaGreatDoorF1
import Derived.Test.YtgbcdgfpmihkcaaGreatDoorC2
import Derived.Test.YtgbcdgfpmihkcaaGreatDoorS1
namespace Go.Proofs.YtgbcdgfpmihkcaaGreatDoor
open Go.RowKit Go.Fm Go.BigFrame Go.Shelf Go.Maps
set_option linter.unusedVariables false
set_option linter.unusedSimpArgs false
set_option maxRecDepth 100000

theorem small_few {b : Bat} (h : SmallB b) : b.recs.length ≤ 1000 ∧ ∀ r ∈ b.recs, r.hs.length ≤ 1000 := by
  refine ⟨by have := h.len; omega, fun r hr => ?_⟩
  have := (h.recs r hr).1
  omega
theorem ok_few {b : Bat} (h : BatOK b) : b.recs.length ≤ 100 ∧ ∀ r ∈ b.recs, r.hs.length ≤ 100 := by
  refine ⟨by have := h.len; omega, fun r hr => ?_⟩
  obtain ⟨k, hk⟩ := List.getElem?_of_mem hr
  have := (h.recs k r hk).ok.hs
  omega
def withBase (b : Bat) (n : Int) : Bat := { b with base := n }
theorem apCode_ok {s : Seg} {b : Bat} {room used fuse : Int} (h : apCode s b room used fuse = 0) : BatOK b ∧ s.end' ≤ b.base := by
  unfold apCode at h
  split at h
  · assumption
  · cases h
/-- Between two batches of the argument. -/
structure AgMid (w0 wr : World) (sb db mb : Nat) (base every : Nat) (k : Nat) (lst : List Bat) (L : List Row) (S : Nat → Prop) : Prop where
  sd : SD w0 wr sb db mb aS ⟨base, every, lst⟩ 100000 (catB lst) 0 (-1) L S
  len : lst.length ≤ k
set_option maxHeartbeats 16000000 in
theorem again_walk (l : List Bat) (v : Value) (base : Int) (w : World) (hl : BatsR (fun _ => True) w v l) (hst : StepsOK w) (hw0 : 1 ≤ w.heap.size) :
    Calls Tryz.prog 4 #[v, .int .i64 base] w fun e w' => e = .returned (.bool true) ∧ Fr (fun _ => False) w w' := by
  obtain ⟨oa, cap, rfl, hl⟩ := hl
  have HL := Lib.hid hl
  have HST := Lib.hid hst
  have a1 : 1 ≤ aS.size := by decide
  have a2 : aS.size ≤ 40 := by decide
  clear hl hst
  by_cases hbad : 8 < l.length ∨ base < 0 ∨ 1000000 < base
  · have h3 : 8 < l.length ∨ (l.length ≤ 8 ∧ base < 0) ∨ (l.length ≤ 8 ∧ 0 ≤ base ∧ 1000000 < base) := by omega
    clear hbad
    rcases h3 with h8 | ⟨h7, h8⟩ | ⟨h6, h7, h8⟩
    all_goals
      go_enter Tryz.func4, Tryz.ntmps4
      go_wp2_with fail
      refine (live_walk w HST.out hw0).mono ?_
      rintro e w4 ⟨rfl, hf4⟩
      have F4 := Lib.hid hf4
      clear hf4
      go_wp2_with fail
      go_ret
      exact ⟨rfl, F4.out⟩
  · have hlen : l.length ≤ 8 := by omega
    have hb0 : 0 ≤ base := by omega
    have hb1 : base ≤ 1000000 := by omega
    clear hbad
    obtain ⟨bn, rfl⟩ := Int.eq_ofNat_of_zero_le hb0
    go_enter Tryz.func4, Tryz.ntmps4
    go_wp2_with fail
    refine (dnew1 100000 w (by omega) (by omega) aS).mono ?_
    rintro e w1 ⟨db, mb, rfl, hd1, hf1⟩
    have D1 := Lib.hid hd1
    have F1 := Lib.hid hf1
    clear hd1 hf1
    go_wp2_with fail
    refine (open1 D1.out F1.out (by omega) a1 a2 bn 50 (by omega) (by omega) (by omega) [] 0 (scan_empty _) HST.out (by simp) hw0).mono ?_
    rintro e w2 ⟨sb, S2, f, rfl, hs2, -, hff, -⟩
    have hf : f = -1 := hff (by simp)
    subst hf
    have hm2 : AgMid w w2 sb db mb bn 50 0 [] [] S2 := by
      have : ByteArray.empty.extract 0 0 = ByteArray.empty := bytes_ext (by simp)
      rw [this] at hs2
      exact ⟨hs2, Nat.zero_le _⟩
    have M2 := Lib.hid hm2
    clear hs2 hff D1 F1 hm2
    go_wp2_with fail
    go_loopw [9] (fun i wr => ∃ (k : Nat) (lst : List Bat) (L : List Row) (S : Nat → Prop), i = .int .i64 k ∧ k ≤ l.length ∧ AgMid w wr sb db mb bn 50 k lst L S) (fun i _ => l.length - (intOf i).toNat)
    case atStart => exact ⟨0, [], [], S2, rfl, Nat.zero_le _, M2.out⟩
    case round =>
      obtain ⟨k, lst, L, S, rfl, hk, hm⟩ := hrel
      clear M2
      have M := Lib.hid hm
      have hln := hm.len
      clear hm
      rcases Nat.lt_or_ge k l.length with hlt | hge
      · obtain ⟨b, hb⟩ := get_of_lt hlt
        obtain ⟨A, rv, rfl, -, hc, hr⟩ := HL.out k b hb
        have hc1 := hc.to (M.out.sd.fr.block _ hc.lt fun h => h)
        have hr1 := hr.old M.out.sd.fr
        have hh := hr1
        obtain ⟨ra, rcap, rfl, -⟩ := hh
        have HC1 := Lib.hid hc1
        have HR1 := Lib.hid hr1
        have HB := Lib.hid hb
        obtain ⟨c0, c1, c2, c3, c4, c5⟩ := hc1
        have HSM := Lib.hid (small_walk _ b _ _ hr1)
        clear hb hc hr hr1
        unfold batV at HSM
        go_wp2_with fail
        refine HSM.out.mono ?_
        rintro e w3 ⟨c, rfl, hsm, hf3⟩
        have SD3 := Lib.hid (M.out.sd.old hf3)
        have HC3 := Lib.hid (HC1.out.to (hf3.block _ HC1.out.lt fun h => h))
        have HR3 := Lib.hid (HR1.out.old hf3)
        clear hf3 HSM c0 c1 c2 c3 c4 c5 HC1 HR1
        cases c with
        | false =>
          clear hsm
          go_wp2_with fail
          refine (live_walk _ (HST.out.old SD3.out.fr) (Nat.le_trans hw0 SD3.out.fr.size)).mono ?_
          rintro e w4 ⟨rfl, hf4⟩
          have F4 := Lib.hid (SD3.out.fr.tr hf4)
          clear hf4
          go_wp2_with fail
          go_ret
          exact ⟨rfl, F4.out⟩
        | true =>
          obtain ⟨hf1, hf2⟩ := small_few (hsm rfl)
          have HF2 := Lib.hid hf2
          clear hsm hf2
          obtain ⟨c0, c1, c2, c3, c4, c5⟩ := HC3.out
          have HCP := Lib.hid (copy_bat _ b _ _ HR3.out hf1 HF2.out)
          unfold batV at HCP
          go_wp2_with fail
          refine HCP.out.mono ?_
          rintro e w4 ⟨rv4, rfl, hr4, hf4⟩
          obtain ⟨ra4, rcap4, hrv⟩ : ∃ a c, rv4 = .slice a b.recs.length c := by obtain ⟨a, c, h, -⟩ := hr4; exact ⟨a, c, h⟩
          subst hrv
          have SD4 := Lib.hid (SD3.out.old hf4)
          have HR4 := Lib.hid (hr4.mono (K' := fun x => w3.heap.size ≤ x ∧ x < w4.heap.size) fun x hx hl => ⟨hx, hl⟩)
          have HSZ := Lib.hid hf4.size
          clear hr4 hf4 HCP c0 c1 c2 c3 c4 c5
          have SDA := Lib.hid (SD4.out.old ((Fr.same w4).alloc (.cells (batBox b (.slice ra4 b.recs.length rcap4)) 34)))
          unfold batV
          unfold batBox at SDA
          go_wp2_with fail
          refine (send_walk SDA.out.sg).mono ?_
          obtain ⟨E, hE⟩ : ∃ E, E = (⟨bn, 50, lst⟩ : Seg).end' := ⟨_, rfl⟩
          rw [← hE]
          rintro e w5 ⟨rfl, rfl⟩
          have HE := Lib.hid hE
          clear hE SDA
          have SD5 := Lib.hid (SD4.out.old ((Fr.same w4).alloc (.cells (batBox (withBase b E) (.slice ra4 b.recs.length rcap4)) 34)))
          have HR5 := Lib.hid (HR4.out.old ((Fr.same w4).alloc (.cells (batBox (withBase b E) (.slice ra4 b.recs.length rcap4)) 34)))
          have X5 := Lib.hid (heap_alloc_self w4 (.cells (batBox (withBase b E) (.slice ra4 b.recs.length rcap4)) 34))
          have hsum : sumB lst ≤ 900000000 := by
            have h9 := SD5.out.dk.sz
            rw [catB_size] at h9
            omega
          have HAP := Lib.hid (append1 SD5.out a1 a2 (fun x => w3.heap.size ≤ x ∧ x < w4.heap.size) (fun x hx hd => by have := SD3.out.dk.dk.lt hd; omega) (withBase b E) (.slice ra4 b.recs.length rcap4) HR5.out HST.out (by show lst.length < 800; omega) hsum hw0)
          have SW5 := Lib.hid (show (w4.alloc (.cells (batBox (withBase b E) (.slice ra4 b.recs.length rcap4)) 34)).heap.size = w4.heap.size + 1 by simp)
          unfold batV at HAP
          unfold batBox withBase at SD5 HR5 X5 HAP SW5
          dsimp only at SD5 HR5 X5 HAP SW5
          clear hsum
          go_wp2_with fail
          generalize (w4.alloc (.cells #[.int .i64 E, .int .i64 b.span, .int .i64 b.prod, .int .i64 b.epoch, .int .i64 b.seq, .slice ra4 b.recs.length rcap4] 34)) = W5 at *
          refine HAP.out.mono ?_
          rintro e w6 ⟨rfl, hok, hno⟩
          have HOK := Lib.hid hok
          have HNO := Lib.hid hno
          clear hok hno HAP
          have hco := apCode_ok (s := ⟨bn, 50, lst⟩) (b := ⟨E, b.span, b.prod, b.epoch, b.seq, b.recs⟩) (room := 100000) (used := ((catB lst).size : Nat)) (fuse := -1)
          have HCO := Lib.hid hco
          clear hco
          generalize hcd : apCode ⟨bn, 50, lst⟩ ⟨E, b.span, b.prod, b.epoch, b.seq, b.recs⟩ 100000 ((catB lst).size : Nat) (-1) = c at *
          clear hcd
          by_cases hc0 : c = 0
          · subst hc0
            obtain ⟨hbo, -⟩ := HCO.out rfl
            obtain ⟨L6, S6, hs6, hf6, hS6, hD6⟩ := HOK.out rfl
            clear HOK HNO HCO
            obtain ⟨b1, hb1'⟩ : ∃ b1 : Bat, b1 = ⟨E, b.span, b.prod, b.epoch, b.seq, b.recs⟩ := ⟨_, rfl⟩
            have hsp0 := hbo.span0
            have hsp1 := hbo.span1
            have hE0 := hbo.base0
            have hE1 := hbo.base1
            dsimp only at hsp0 hsp1 hE0 hE1
            have SD6 : SD w w6 sb db mb aS ⟨bn, 50, lst ++ [⟨E, b.span, b.prod, b.epoch, b.seq, b.recs⟩]⟩ 100000 (catB (lst ++ [⟨E, b.span, b.prod, b.epoch, b.seq, b.recs⟩])) 0 (-1) L6 S6 := by
              rw [catB_snoc]
              exact hs6
            have SD6 := Lib.hid SD6
            have hSlt : ∀ i, S i → i < w3.heap.size := fun i hi => (SD3.out.lt i hi).2
            have hDlt : ∀ i, DkS db mb L i → i < w3.heap.size := fun i hi => SD3.out.dk.dk.lt hi
            have hsz := HSZ.out
            have hnew : ¬ (S w4.heap.size ∨ DkS db mb L w4.heap.size) := fun h => by
              rcases h with h | h
              · have := hSlt _ h; omega
              · have := hDlt _ h; omega
            have hx6 := (hf6.block w4.heap.size (by have := SW5.out; omega) hnew).trans X5.out
            have HR6 := Lib.hid (HR5.out.fr hf6 fun x hx h => by
              rcases h with h | h
              · have := hSlt _ h; omega
              · have := hDlt _ h; omega)
            have hfs : Fr (fun i => i = w4.heap.size) w6 (w6.setCell ⟨w4.heap.size, 0, none⟩ (.int .i64 (E + b.span - 1))) := Fr.setCell (S := fun i => i = w4.heap.size) (p := ⟨w4.heap.size, 0, none⟩) (Fr.refl _ _) (.inl rfl) _
            have SD7 := Lib.hid (SD6.out.frame hfs (fun i hi e => by
              rcases hS6 i hi with h | h
              · have := hSlt i h; omega
              · have := SW5.out; omega) (fun i hi e => by
              rcases hD6 i hi with h | h
              · have := hDlt i h; omega
              · have := SW5.out; omega) fun i e => by have := SD4.out.fr.size; omega)
            have HR7 := Lib.hid (HR6.out.fr hfs fun x hx e => by omega)
            have X7 := Lib.hid (heap_setCell_self (o := 0) hx6 (.int .i64 (E + b.span - 1)))
            have f0 := fz_of hx6 0
            have c0 : w6.cell? ⟨w4.heap.size, 0, none⟩ = some (.int .i64 E) := (cell_of hx6 0).trans rfl
            have hsum : sumB (lst ++ [⟨E, b.span, b.prod, b.epoch, b.seq, b.recs⟩]) ≤ 900000000 := by
              have h9 := SD6.out.dk.sz
              rw [catB_size] at h9
              omega
            have HAP := Lib.hid (append1 SD7.out a1 a2 (fun x => w3.heap.size ≤ x ∧ x < w4.heap.size) (fun x hx hd => by
              rcases hD6 x hd with h | h
              · have := hDlt x h; omega
              · have := SW5.out; omega) ⟨E + b.span - 1, b.span, b.prod, b.epoch, b.seq, b.recs⟩ (.slice ra4 b.recs.length rcap4) HR7.out HST.out (by show (lst ++ [_]).length < 800; simp; omega) hsum hw0)
            have hc1 : apCode ⟨bn, 50, lst ++ [⟨E, b.span, b.prod, b.epoch, b.seq, b.recs⟩]⟩ ⟨E + b.span - 1, b.span, b.prod, b.epoch, b.seq, b.recs⟩ 100000 ((catB (lst ++ [⟨E, b.span, b.prod, b.epoch, b.seq, b.recs⟩])).size : Nat) (-1) = 1 := code1 (by
              have := Seg.end_push ⟨bn, 50, lst⟩ ⟨E, b.span, b.prod, b.epoch, b.seq, b.recs⟩
              rw [show (⟨bn, 50, lst ++ [⟨E, b.span, b.prod, b.epoch, b.seq, b.recs⟩]⟩ : Seg) = (⟨bn, 50, lst⟩ : Seg).push ⟨E, b.span, b.prod, b.epoch, b.seq, b.recs⟩ from rfl, this]
              dsimp only
              omega)
            unfold App1Post at HAP
            rw [hc1] at HAP
            unfold batV at HAP
            dsimp only at HAP
            simp only [List.setIfInBounds_toArray, List.set_cons_zero] at X7
            have hend6 := Seg.end_push ⟨bn, 50, lst⟩ ⟨E, b.span, b.prod, b.epoch, b.seq, b.recs⟩
            have HEND := Lib.hid hend6
            clear hc1 hsum hnew hx6 hfs hs6 hf6 hS6 hD6 hbo hb1' hSlt hDlt hsz hend6
            go_wp2_with fail
            refine (send_walk SD6.out.sg).mono ?_
            rw [show (⟨bn, 50, lst ++ [⟨E, b.span, b.prod, b.epoch, b.seq, b.recs⟩]⟩ : Seg).end' = E + b.span from HEND.out]
            rintro e w7 ⟨rfl, rfl⟩
            have x0 : (w6.setCell ⟨w4.heap.size, 0, none⟩ (.int .i64 (E + b.span - 1))).cell? ⟨w4.heap.size, 0, none⟩ = some (.int .i64 (E + b.span - 1)) := (cell_of X7.out 0).trans rfl
            have x1 : (w6.setCell ⟨w4.heap.size, 0, none⟩ (.int .i64 (E + b.span - 1))).cell? ⟨w4.heap.size, 1, none⟩ = some (.int .i64 b.span) := (cell_of X7.out 1).trans rfl
            have x2 : (w6.setCell ⟨w4.heap.size, 0, none⟩ (.int .i64 (E + b.span - 1))).cell? ⟨w4.heap.size, 2, none⟩ = some (.int .i64 b.prod) := (cell_of X7.out 2).trans rfl
            have x3 : (w6.setCell ⟨w4.heap.size, 0, none⟩ (.int .i64 (E + b.span - 1))).cell? ⟨w4.heap.size, 3, none⟩ = some (.int .i64 b.epoch) := (cell_of X7.out 3).trans rfl
            have x4 : (w6.setCell ⟨w4.heap.size, 0, none⟩ (.int .i64 (E + b.span - 1))).cell? ⟨w4.heap.size, 4, none⟩ = some (.int .i64 b.seq) := (cell_of X7.out 4).trans rfl
            have x5 : (w6.setCell ⟨w4.heap.size, 0, none⟩ (.int .i64 (E + b.span - 1))).cell? ⟨w4.heap.size, 5, none⟩ = some (.slice ra4 b.recs.length rcap4) := (cell_of X7.out 5).trans rfl
            go_wp2_with fail
            refine HAP.out.mono ?_
            rintro e w8 ⟨rfl, -, hno⟩
            have SD8 := Lib.hid (SD7.out.old (hno (by omega)))
            clear hno HAP x0 x1 x2 x3 x4 x5 f0 c0
            go_wp2_with fail
            go_roundw
            case rel => exact ⟨k + 1, _, L6, S6, by go_num, by omega, ⟨SD8.out, by simp; omega⟩⟩
            case measure => simp [intOf]; omega
          · have q1 : (c != 0) = true := by simpa using hc0
            have SD6 := Lib.hid (SD5.out.old (HNO.out hc0))
            clear hc0
            go_wp2_with fail
            go_roundw
            case rel => exact ⟨k + 1, lst, L, S, by go_num, by omega, ⟨SD6.out, by omega⟩⟩
            case measure => simp [intOf]; omega
      · have hsum : sumB lst ≤ 100000 := by
          have h9 := M.out.sd.dk.sz
          rw [catB_size] at h9
          omega
        have hch := M.out.sd.sg.ok.ch
        have HSCN := Lib.hid (scan_all hch (by dsimp only; omega))
        have HCH := Lib.hid hch
        clear hch
        go_wp2_with fail
        refine (send_walk M.out.sd.sg).mono ?_
        rintro e w3 ⟨rfl, rfl⟩
        go_wp2_with fail
        refine (ssize_walk M.out.sd.sg).mono ?_
        rintro e w3 ⟨rfl, rfl⟩
        go_wp2_with fail
        refine (sread_walk M.out.sd.sg bn 1000000).mono ?_
        rintro e w4 ⟨v4, rfl, hr4, hf4⟩
        have SD4 := Lib.hid (M.out.sd.old hf4)
        have hh := hr4
        obtain ⟨oa4, cap4, rfl, -⟩ := hh
        have HR4 := Lib.hid hr4
        have HSZ := Lib.hid hf4.size
        clear hr4 hf4
        go_wp2_with fail
        refine (open1 SD4.out.dk SD4.out.fr (by omega) a1 a2 bn 3 (by omega) (by omega) (by omega) lst (sumB lst) HSCN.out HST.out (by omega) hw0).mono ?_
        rintro e w5 ⟨tb, S5, f5, rfl, hs5, -, hff, hf5⟩
        have hf : f5 = -1 := hff (by rw [catB_size]; omega)
        subst hf
        have SD5 := Lib.hid hs5
        have HR5 := Lib.hid (HR4.out.fr hf5 fun x hx hd => by have := M.out.sd.dk.dk.lt hd; omega)
        clear hs5 hff hf5
        go_wp2_with fail
        refine (send_walk SD5.out.sg).mono ?_
        rintro e w6 ⟨rfl, rfl⟩
        have hends : (⟨bn, 3, lst⟩ : Seg).end' = (⟨bn, 50, lst⟩ : Seg).end' := rfl
        rw [hends]
        clear hends
        go_wp2_with fail
        refine (ssize_walk SD5.out.sg).mono ?_
        rintro e w6 ⟨rfl, rfl⟩
        dsimp only
        go_wp2_with fail
        refine (sread_walk SD5.out.sg bn 1000000).mono ?_
        rintro e w6 ⟨v6, rfl, hr6, hf6⟩
        have SD6 := Lib.hid (SD5.out.old hf6)
        have HR6 := Lib.hid (HR5.out.old hf6)
        have hpl := (pick_sub bn 1000000 lst 0 []).2
        have hpo : ∀ x ∈ pick bn 1000000 lst 0 [], x.recs.length ≤ 100 ∧ ∀ r ∈ x.recs, r.hs.length ≤ 100 := fun x hx => by
          rcases (pick_sub bn 1000000 lst 0 []).1 x hx with h | h
          · cases h
          · exact ok_few (HCH.out.ok x h).1
        have hpl2 : (pick bn 1000000 lst 0 []).length ≤ 100 := by rw [List.length_nil] at hpl; omega
        have HSM := Lib.hid (same_bats _ _ (pick bn 1000000 lst 0 []) _ _ _ hr6 HR6.out hpl2 hpo)
        have hh := hr6
        obtain ⟨oa6, cap6, rfl, -⟩ := hh
        clear hr6 hf6 hpl hpo hpl2
        go_wp2_with fail
        refine HSM.out.mono ?_
        rintro e w7 ⟨rfl, hf7⟩
        have F7 := Lib.hid (SD6.out.fr.tr hf7)
        clear hf7 HSM
        go_wp2_with fail
        refine (live_walk _ (HST.out.old F7.out) (Nat.le_trans hw0 F7.out.size)).mono ?_
        rintro e w8 ⟨rfl, hf8⟩
        have F8 := Lib.hid (F7.out.tr hf8)
        clear hf8
        go_wp2_with fail
        go_ret
        exact ⟨rfl, F8.out⟩
end Go.Proofs.YtgbcdgfpmihkcaaGreatDoor
