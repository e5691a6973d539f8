/- PlogRetains: the walk. -/
import Derived.Test.YtdlnafhhkpklmaaGreatDoorQJ
import Derived.Test.YtdlnafhhkpklmaaGreatDoorB1
namespace Go.Proofs.YtdlnafhhkpklmaaGreatDoor
open Go.RowKit Go.Fm Go.BigFrame Go.Shelf Go.Maps
set_option linter.unusedVariables false
set_option linter.unusedSimpArgs false
set_option maxRecDepth 100000

section
variable {B : Nat} {w w' w1 w2 : World} {lb db mb : Nat} {p : ByteArray} {lim ev : Nat} {beg : Int} {es : List PE} {own : Bool} {L L' : List Row} {S S' : Nat → Prop} {room used fuse : Int} {F F' : ByteArray → ByteArray × Nat} {n : Nat}
theorem LogD.end_le (h : LogD B w lb db mb p lim ev beg es own L S room used fuse F n) : lgEnd beg es ≤ 1099511627826 := by
  unfold lgEnd
  cases e : es.getLast? with
  | none =>
    obtain ⟨sv, G, hV, -⟩ := h.lg
    exact hV.b1
  | some x =>
    have hx : x.s ∈ segsOf es := List.mem_map.2 ⟨x, List.mem_of_getLast? e, rfl⟩
    have h1 := h.fl.bb x.s hx
    exact (h.chn hx).end_le (by omega)
/-- A new disk and a new log on it. -/
theorem dnew_n (room : Int) (w : World) (h1 : 1 ≤ room) (h2 : room ≤ 4194304) : Calls Tryz.prog 10 #[.int .i64 room] w fun e w' => ∃ db mb, e = .returned (.tuple #[.pointer (some ⟨db, 0, none⟩), .int .i64 0]) ∧ DkN w' db mb room 0 [] (fun _ => (ByteArray.empty, 0)) ∧ w.heap.size ≤ db ∧ w.heap.size ≤ mb ∧ Fr (fun _ => False) w w' := by
  refine (dnew_walk room (fun _ => (ByteArray.empty, 0)) w h1 h2).mono ?_
  rintro e w1 ⟨db, mb, rfl, hdk, hf1, hdb, hmb⟩
  exact ⟨db, mb, rfl, ⟨hdk, ⟨Int.le_refl _, by omega, by decide, fun r hr => (by cases hr)⟩, rfl, by omega⟩, hdb, hmb, hf1⟩
theorem LogD.cat_ok (h : LogD B w lb db mb p lim ev beg es own L S room used fuse F n) : ∀ b ∈ catE es, BatOK b := fun b hb => by
  unfold catE catL at hb
  obtain ⟨s, hs, hb⟩ := List.mem_flatMap.1 hb
  exact ((h.chn hs).ok b hb).1
open Classical in
/-- One batch of the caller's more, whether it fits or not. -/
theorem any_append {k : Nat} {b : Bat} (D : LogD B w lb db mb p lim ev 0 es true L S room used (-1) F (2 * k)) (hu : used ≤ 16068 * k) (hk : k < 20) (hroom : 400000 ≤ room) (hsm : SmallB b) (hst : StepsOK w) (K : Nat → Prop) (hK : ∀ k, K k → ¬ S k ∧ ¬ DkS db mb L k) (v : Value) (hr : RecsR K w v b.recs) (sy : Bool) :
    Calls Tryz.prog 13 #[.pointer (some ⟨lb, 0, none⟩), batV b v, .bool sy] w fun e w' => ∃ es' L' S' F' used', e = .returned (.tuple #[.int .i64 (if BatOK (baseB b (lgEnd 0 es)) then lgEnd 0 es else 0), .int .i64 (if BatOK (baseB b (lgEnd 0 es)) then 0 else 1)]) ∧ LogD B w' lb db mb p lim ev 0 es' true L' S' room used' (-1) F' (2 * (k + 1)) ∧ used' ≤ 16068 * ((k + 1 : Nat) : Int) ∧
      catE es' = catE es ++ (if BatOK (baseB b (lgEnd 0 es)) then [baseB b (lgEnd 0 es)] else []) ∧ sumB (catE es') ≤ sumB (catE es) + 16068 ∧ ((∀ s ∈ segsOf es, s.l ≠ []) → ∀ s ∈ segsOf es', s.l ≠ []) ∧ Others p L F L' F' ∧ Foot db mb w w' S L S' L' ∧ Fr (fun i => S i ∨ DkS db mb L i) w w' := by
  refine (lapp D (by omega) hst K hK b v hr sy).mono ?_
  rintro e w1 ⟨c, a, es', L', S', us', fu', F', rfl, hD, hot, hsf, hfo, hfr, ha, hna, hca, -, hno, hfu, -⟩
  obtain ⟨rfl, hc⟩ := hfu rfl
  by_cases hb : BatOK (baseB b (lgEnd 0 es))
  · have hsz : bsz (baseB b (lgEnd 0 es)) ≤ 16068 := bsz_small hb (hsm.recs_eq rfl)
    obtain rfl := hc hb (by omega)
    obtain rfl := hca rfl
    obtain ⟨h1, h2⟩ := ha rfl
    have hcat : catE es' = catE es ++ [baseB b (lgEnd 0 es)] := by
      unfold catE
      rw [h1, catL_app]
    refine ⟨es', L', S', F', us', by rw [if_pos hb, if_pos hb]; rfl, hD, by omega, by rw [if_pos hb]; exact hcat, by rw [hcat, sumB_snoc]; omega, fun hne => ?_, hot, hfo, hfr⟩
    rw [h1]
    intro s hs
    unfold appS at hs
    cases e : (segsOf es).getLast? with
    | none =>
      rw [e] at hs
      obtain rfl : s = _ := by simpa using hs
      simp
    | some y =>
      rw [e] at hs
      dsimp only at hs
      split at hs
      · rcases List.mem_append.1 hs with hs | hs
        · exact hne s hs
        · obtain rfl : s = _ := by simpa using hs
          simp
      · rcases List.mem_append.1 hs with hs | hs
        · exact hne s ((List.dropLast_sublist _).subset hs)
        · obtain rfl : s = _ := by simpa using hs
          simp [Seg.push]
  · obtain ⟨rfl, hse⟩ := hno hb
    have ha0 : a = false := by
      cases a with
      | false => rfl
      | true =>
        obtain ⟨h1, -⟩ := ha rfl
        refine absurd (hD.cat_ok _ ?_) hb
        unfold catE
        rw [h1, catL_app]
        simp
    subst ha0
    obtain ⟨h1, h2, h3⟩ := hna rfl
    refine ⟨es', L', S', F', us', by rw [if_neg hb, if_neg hb]; rfl, hD, by omega, by rw [if_neg hb, List.append_nil]; exact h1, by unfold catE; rw [hse]; omega, by rw [hse]; exact fun h => h, hot, hfo, hfr⟩
set_option maxHeartbeats 16000000 in
theorem retains_walk (l : List Bat) (v : Value) (most : Int) (w : World) (hl : BatsR (fun _ => True) w v l) (hst : StepsOK w) (hw0 : 1 ≤ w.heap.size) :
    Calls Tryz.prog 3 #[v, .int .i64 most] w fun e w' => e = .returned (.bool true) ∧ Fr (fun _ => False) w w' := by
  have hl2 := hl.mono (K' := fun b => b < w.heap.size) fun b _ h => h
  clear hl
  obtain ⟨oa, cap, rfl, hl3⟩ := hl2
  have HL := Lib.hid hl3
  have HST := Lib.hid hst
  clear hl3 hst
  by_cases hbad : 8 < l.length ∨ most < 0
  · have h3 : 8 < l.length ∨ (l.length ≤ 8 ∧ most < 0) := by omega
    clear hbad
    rcases h3 with h8 | ⟨h7, h8⟩
    all_goals
      go_enter Tryz.func3, Tryz.ntmps3
      go_wp2_with fail
      refine (plive_walk w HST.out hw0).mono ?_
      rintro e w4 ⟨rfl, hf4⟩
      have F4 := Lib.hid hf4
      clear hf4
      go_wp2_with fail
      go_ret
      exact ⟨rfl, F4.out⟩
  · have hlen : l.length ≤ 8 := by omega
    have hm0 : 0 ≤ most := by omega
    have hm0' : ¬ most < 0 := by omega
    clear hbad
    go_enter Tryz.func3, Tryz.ntmps3
    go_wp2_with fail
    refine (dnew_n 400000 w (by omega) (by omega)).mono ?_
    rintro e w1 ⟨db, mb, rfl, hdn, hdb, hmb, hf1⟩
    have hpo := popen_new (B := w.heap.size) (p := pS) (lim := 60) (ev := 20) hdn (by omega) hw0 hdb hmb (by decide) (by decide) (by omega) (by omega) (by omega) (by omega) (HST.out.old hf1)
    unfold cfgV at hpo
    have HPO := Lib.hid hpo
    have F1 := Lib.hid hf1
    have HB := Lib.hid (And.intro hdb hmb)
    clear hf1 hdb hmb hdn hpo hm0'
    go_wp2_with fail
    refine HPO.out.mono ?_
    rintro e w2 ⟨lb, S2, F2, rfl, hD, hS, hf2⟩
    have D2 := Lib.hid hD
    have F2' := Lib.hid (show Fr (fun _ => False) w w2 from F1.out.trans hf2 fun i hi => .inr (by have := HB.out; rcases hi with rfl | rfl <;> omega))
    clear hD hS hf2 HPO
    go_wp2_with fail
    go_loopw [9] (fun i wr => ∃ (k : Nat) (es : List PE) (L : List Row) (S : Nat → Prop) (F : ByteArray → ByteArray × Nat) (used : Int), i = .int .i64 k ∧ k ≤ l.length ∧ LogD w.heap.size wr lb db mb pS 60 20 0 es true L S 400000 used (-1) F (2 * k) ∧ used ≤ 16068 * k ∧ Fr (fun _ => False) w wr) (fun i _ => l.length - (intOf i).toNat)
    case atStart => exact ⟨0, [], [], S2, F2, 0, rfl, Nat.zero_le _, D2.out, by omega, F2'.out⟩
    case round =>
      obtain ⟨k, es, L, S, F, used, rfl, hk, hD, hu, hf⟩ := hrel
      have D := Lib.hid hD
      have FF := Lib.hid hf
      clear hD hf D2 F2'
      rcases Nat.lt_or_ge k l.length with hlt | hge
      · obtain ⟨b, hb⟩ := get_of_lt hlt
        obtain ⟨A, rv, rfl, hA, hc, hr⟩ := HL.out k b hb
        have hc1 := hc.to (FF.out.block _ hc.lt fun h => h)
        have hr1 := hr.old FF.out
        have hh := hr1
        obtain ⟨ra, rcap, rfl, -⟩ := hh
        have HC1 := Lib.hid hc1
        have HR1 := Lib.hid hr1
        obtain ⟨c0, c1, c2, c3, c4, c5⟩ := hc1
        have HSM := Lib.hid (small_walk _ b _ _ hr1)
        clear hb hc hr hr1
        unfold batV at HSM
        go_wp2_with fail
        refine HSM.out.mono ?_
        rintro e w3 ⟨c, rfl, hsm, hf3⟩
        have D3 := Lib.hid (D.out.old hf3)
        have F3 := Lib.hid (FF.out.tr hf3)
        have HC3 := Lib.hid (HC1.out.to (hf3.block _ HC1.out.lt fun h => h))
        have HR3 := Lib.hid (HR1.out.old hf3)
        clear hf3 HSM c0 c1 c2 c3 c4 c5 HC1 HR1
        cases c with
        | false =>
          clear hsm
          go_wp2_with fail
          refine (plive_walk _ (HST.out.old F3.out) (Nat.le_trans hw0 F3.out.size)).mono ?_
          rintro e w4 ⟨rfl, hf4⟩
          have F4 := Lib.hid (F3.out.tr hf4)
          clear hf4
          go_wp2_with fail
          go_ret
          exact ⟨rfl, F4.out⟩
        | true =>
          have HAP := Lib.hid (any_append D3.out hu (by omega) (by omega) (hsm rfl) (HST.out.old F3.out) _ (fun i hi => ⟨fun h => by have := (D3.out.lt (.inl h)).1; omega, fun h => by have := D3.out.dl i h; omega⟩) _ HR3.out false)
          obtain ⟨c0, c1, c2, c3, c4, c5⟩ := HC3.out
          unfold batV at HAP
          clear hsm
          go_wp2_with fail
          refine HAP.out.mono ?_
          rintro e w5 ⟨es', L', S', F', used', rfl, hD5, hu5, -, -, -, -, -, hfr5⟩
          have D5 := Lib.hid hD5
          have HU5 := Lib.hid hu5
          have F5 := Lib.hid (F3.out.trans hfr5 fun i hi => .inr (D3.out.lt hi).1)
          clear hD5 hu5 hfr5 HAP c0 c1 c2 c3 c4 c5
          go_wp2_with fail
          go_roundw
          case rel => exact ⟨k + 1, es', L', S', F', used', by go_num, hlt, D5.out, HU5.out, F5.out⟩
          case measure => simp [intOf]; omega
      · obtain rfl : k = l.length := by omega
        have HE := Lib.hid (lend_walk D.out.lg)
        go_wp2_with fail
        refine HE.out.mono ?_
        rintro e w5 ⟨rfl, hf5⟩
        have hnE := D.out.nE
        have HRE := Lib.hid (lretain_walk (most := most) (D.out.old hf5) hm0 (by omega) (by omega) D.out.end_le)
        have F5 := Lib.hid (FF.out.tr hf5)
        clear hf5 HE
        go_wp2_with fail
        refine HRE.out.mono ?_
        rintro e w6 ⟨j, beg', own', L6, S6, u6, F6, rfl, hM, fin⟩
        have FIN := Lib.hid fin
        have D6 := Lib.hid hM.d
        have EN := Lib.hid hM.en
        have hjl := hM.jl
        have hu6 := hM.us
        have F6' := Lib.hid (F5.out.trans hM.fr fun i hi => .inr (D.out.lt hi).1)
        have HSEG := Lib.hid (lsegment_walk hM.d.lg 1)
        clear hM fin HRE
        go_wp2_with fail
        refine HSEG.out.mono ?_
        rintro e w7 ⟨v7, ok, rfl, hok, -, -, hf7⟩
        have D7 := Lib.hid (D6.out.old hf7)
        have F7 := Lib.hid (F6'.out.tr hf7)
        have HOK := Lib.hid hok
        have hen := lend_walk D7.out.lg
        rw [EN.out] at hen
        have HEN := Lib.hid hen
        clear hf7 hok hen HSEG D6 F6'
        go_wp2_with fail
        refine HEN.out.mono ?_
        rintro e w8 ⟨rfl, hf8⟩
        have D8 := Lib.hid (D7.out.old hf8)
        have F8 := Lib.hid (F7.out.tr hf8)
        have HSZ := Lib.hid (lsize_walk D8.out.lg)
        clear hf8 D7 F7 HEN
        go_wp2_with fail
        refine HSZ.out.mono ?_
        rintro e w9 ⟨rfl, hf9⟩
        have D9 := Lib.hid (D8.out.old hf9)
        have F9 := Lib.hid (F8.out.tr hf9)
        have hnE2 := D9.out.nE
        rw [List.length_drop] at hnE2
        have HR2 := Lib.hid (lretain_walk (most := most) D9.out hm0 (by rw [List.length_drop]; omega) (by rw [List.length_drop]; omega) D9.out.end_le)
        clear hf9 HSZ D8 F8
        obtain ⟨q, hq⟩ : ∃ q : Nat, q = lgSize (es.drop j) := ⟨_, rfl⟩
        have hgo : ¬ (most < (q : Int) ∧ ok = true) := fun h => by
          rcases FIN.out with h1 | h1
          · have := (HOK.out.1 h.2).2
            omega
          · rw [hq] at h
            omega
        rw [← hq]
        have HGO := Lib.hid hgo
        clear hgo hq
        by_cases hmq : most < (q : Int)
        · have hok0 : ok = false := by
            cases ok with
            | false => rfl
            | true => exact absurd ⟨hmq, rfl⟩ HGO.out
          subst hok0
          go_wp2_with fail
          refine HR2.out.mono ?_
          rintro e w10 ⟨j2, beg2, own2, L10, S10, u10, F10, rfl, hM2, fin2⟩
          have hret := hM2.rt _ _ (Ret.stop (by
            rcases fin2 with h | h
            · left
              unfold segsOf
              rw [List.length_map]
              exact h
            · right
              rw [← lgSize_segs]
              exact h))
          have hsame := hret.same (by
            rcases FIN.out with h | h
            · left
              unfold segsOf
              rw [List.length_map]
              exact h
            · right
              rw [← lgSize_segs]
              exact h)
          have hlen2 := congrArg List.length hsame.1
          unfold segsOf at hlen2
          rw [List.length_map, List.length_map, List.length_drop] at hlen2
          have hj2 : j2 = 0 := by
            have h1 := hM2.jl
            omega
          have F10' := Lib.hid (F9.out.trans hM2.fr fun i hi => .inr (D9.out.lt hi).1)
          subst hj2
          clear hM2 fin2 hret hsame hlen2 HR2
          go_wp2_with fail
          refine (plive_walk _ (HST.out.old F10'.out) (Nat.le_trans hw0 F10'.out.size)).mono ?_
          rintro e w11 ⟨rfl, hf11⟩
          have F11 := Lib.hid (F10'.out.tr hf11)
          clear hf11
          go_wp2_with fail
          go_ret
          exact ⟨rfl, F11.out⟩
        · go_wp2_with fail
          refine HR2.out.mono ?_
          rintro e w10 ⟨j2, beg2, own2, L10, S10, u10, F10, rfl, hM2, fin2⟩
          have hret := hM2.rt _ _ (Ret.stop (by
            rcases fin2 with h | h
            · left
              unfold segsOf
              rw [List.length_map]
              exact h
            · right
              rw [← lgSize_segs]
              exact h))
          have hsame := hret.same (by
            rcases FIN.out with h | h
            · left
              unfold segsOf
              rw [List.length_map]
              exact h
            · right
              rw [← lgSize_segs]
              exact h)
          have hlen2 := congrArg List.length hsame.1
          unfold segsOf at hlen2
          rw [List.length_map, List.length_map, List.length_drop] at hlen2
          have hj2 : j2 = 0 := by
            have h1 := hM2.jl
            omega
          have F10' := Lib.hid (F9.out.trans hM2.fr fun i hi => .inr (D9.out.lt hi).1)
          subst hj2
          clear hM2 fin2 hret hsame hlen2 HR2
          go_wp2_with fail
          refine (plive_walk _ (HST.out.old F10'.out) (Nat.le_trans hw0 F10'.out.size)).mono ?_
          rintro e w11 ⟨rfl, hf11⟩
          have F11 := Lib.hid (F10'.out.tr hf11)
          clear hf11
          go_wp2_with fail
          go_ret
          exact ⟨rfl, F11.out⟩
end
end Go.Proofs.YtdlnafhhkpklmaaGreatDoor
