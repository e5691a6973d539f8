/- The document's Latest, later, last: the walks. -/
import Derived.Test.YtcnmggmfehdfoaaDoorL3
namespace Go.Proofs.YtcnmggmfehdfoaaDoor
open Go.RowKit Go.Fm Go.BigFrame
set_option linter.unusedVariables false
set_option linter.unusedSimpArgs false

theorem key_ne {a b : ByteArray} (h : ¬ a = b) : (a.toList == b.toList) = false := by
  cases hh : (a.toList == b.toList) with
  | false => rfl
  | true =>
    have h2 : a.toList = b.toList := eq_of_beq hh
    rw [ByteArray.toList_eq, ByteArray.toList_eq] at h2
    obtain ⟨⟨x⟩⟩ := a
    obtain ⟨⟨y⟩⟩ := b
    exact absurd (by simpa using h2) h

set_option maxRecDepth 100000 in
set_option maxHeartbeats 8000000 in
theorem rlatest_walk (K : Nat → Prop) (l : List Bat) (s : ByteArray) (v : Value) (w : World) (h : BatsR K w v l) (hg : GoodL l) :
    Calls Tryd.prog 11 #[v, .string s] w (LatPost w (latTo l s l.length)) := by
  obtain ⟨oa, cap, rfl, hcl⟩ := h
  have H := Lib.hid hcl
  have G := Lib.hid hg
  have hl8 := hg.len
  clear hg hcl
  go_enter Tryd.func11, Tryd.ntmps11
  go_wp2_with fail
  go_loopw [6, 7, 8] (fun at' is i wr => ∃ k : Nat, i = .int .i64 k ∧ k ≤ l.length ∧ at' = .int .i64 (latTo l s k).1 ∧ is = .bool (latTo l s k).2 ∧ Fr (fun _ => False) w wr) (fun _ _ i _ => l.length - (intOf i).toNat)
  case atStart => exact ⟨0, rfl, Nat.zero_le _, rfl, rfl, Fr.same _⟩
  case round =>
    obtain ⟨k, rfl, hk, rfl, rfl, hf⟩ := hrel
    have F := Lib.hid hf
    clear hf
    rcases Nat.lt_or_ge k l.length with hlt | hge
    · obtain ⟨x, hx⟩ := get_of_lt hlt
      obtain ⟨a, rv, rfl, -, hc, hrr⟩ := H.out k x hx
      obtain ⟨ra, rcap, rfl, hrr⟩ := hrr
      have HX := Lib.hid hx
      have HRR := Lib.hid hrr
      have HC := Lib.hid hc
      have HG := Lib.hid (G.out.bats x (List.mem_of_getElem? hx))
      have hlen50 := HG.out.len
      obtain ⟨hb0, hb1⟩ := HG.out.base
      have hstep : latTo l s (k + 1) = latIn x.base x.recs s (latTo l s k) x.recs.length := by simp [latTo, hx]
      have HST := Lib.hid hstep
      clear hx hrr hc hstep
      go_wp2_with fail
      go_loopw [6, 7, 9] (fun at' is i wr => ∃ q : Nat, i = .int .i64 q ∧ q ≤ x.recs.length ∧ at' = .int .i64 (latIn x.base x.recs s (latTo l s k) q).1 ∧ is = .bool (latIn x.base x.recs s (latTo l s k) q).2 ∧ Fr (fun _ => False) w wr) (fun _ _ i _ => x.recs.length - (intOf i).toNat)
      case atStart => exact ⟨0, rfl, Nat.zero_le _, rfl, rfl, F.out⟩
      case round =>
        obtain ⟨q, rfl, hq, rfl, rfl, hf⟩ := hrel
        have FQ := Lib.hid hf
        obtain ⟨c0, c1, c2, c3, c4, c5⟩ := HC.out.to (hf.block _ HC.out.lt fun h => h)
        clear hf c1 c2 c3 c4
        rcases Nat.lt_or_ge q x.recs.length with hq1 | hq1
        · obtain ⟨y, hy⟩ := get_of_lt hq1
          obtain ⟨a2, hv, rfl, -, hcy, hhy⟩ := HRR.out q y hy
          obtain ⟨ha, hcap, rfl, -⟩ := hhy
          obtain ⟨-, -, ha0, ha1⟩ := HG.out.recs y (List.mem_of_getElem? hy)
          have hnext : latIn x.base x.recs s (latTo l s k) (q + 1) = if y.bare = false ∧ y.key = s then (x.base + y.at', true) else latIn x.base x.recs s (latTo l s k) q := by simp [latIn, hy]
          have hf2 := FQ.out.alloc (.cells (recCells y (.slice ha y.hs.length hcap)).toArray 39)
          obtain ⟨e0, e1, e2, e3, e4, e5, e6⟩ := hcy.to (FQ.out.block _ hcy.lt fun h => h)
          have c0' : (wr.alloc (.cells (recCells y (.slice ha y.hs.length hcap)).toArray 39)).cell? (a.add (k * 6)) = some (.int .i64 x.base) := hf2.cel HC.out.c0
          have d0 : (wr.alloc (.cells (recCells y (.slice ha y.hs.length hcap)).toArray 39)).cell? ⟨wr.heap.size, 0, none⟩ = some (.int .i64 y.at') := cell_alloc_new wr _ 39 0
          have F2 := Lib.hid hf2
          unfold recCells at F2 d0 c0'
          clear hy hcy hf2
          by_cases hyes : y.bare = false ∧ y.key = s
          · rw [if_pos hyes] at hnext
            have HN := Lib.hid hnext
            clear hnext
            obtain ⟨hyb, hyk⟩ := hyes
            rw [hyb] at e2 F2 d0 c0'
            rw [hyk] at e3 F2 d0 c0'
            go_wp2_with fail
            clear c0 c5 e0 e1 e2 e3 e4 e5 e6
            go_quiet (fail)
            have F4 := Lib.hid (F2.out.drewN nq)
            clear d0 c0'
            go_wp2_with fail
            go_roundw
            case rel => exact ⟨q + 1, by go_num, by omega, by rw [HN.out], by rw [HN.out], F4.out⟩
            case measure => simp [intOf]; omega
          · rw [if_neg hyes] at hnext
            have HN := Lib.hid hnext
            have hno : y.bare = true ∨ (y.bare = false ∧ (y.key.toList == s.toList) = false) := by
              cases h : y.bare
              · exact .inr ⟨rfl, key_ne fun e => hyes ⟨h, e⟩⟩
              · exact .inl rfl
            clear hnext hyes
            rcases hno with hyb | ⟨hyb, hyk⟩
            all_goals
              rw [hyb] at e2 F2 d0 c0'
              go_wp2_with fail
              go_roundw
              case rel => exact ⟨q + 1, by go_num, by omega, by rw [HN.out], by rw [HN.out], F2.out⟩
              case measure => simp [intOf]; omega
        · obtain rfl : q = x.recs.length := by omega
          go_wp2_with fail
          go_roundw
          case rel => exact ⟨k + 1, by go_num, by omega, by rw [HST.out], by rw [HST.out], FQ.out⟩
          case measure => simp [intOf]; omega
    · obtain rfl : k = l.length := by omega
      go_wp2_with fail
      go_ret2
      exact ⟨rfl, F.out⟩

def IffPost (P : Prop) (w : World) (e : Ending) (w' : World) : Prop := ∃ c : Bool, e = .returned (.bool c) ∧ (c = true ↔ P) ∧ Fr (fun _ => False) w w'

set_option maxRecDepth 100000 in
set_option maxHeartbeats 8000000 in
theorem rlater_walk (K : Nat → Prop) (l : List Bat) (i k : Nat) (b0 : Bat) (r0 : Rec) (v : Value) (w : World) (h : BatsR K w v l) (hg : GoodL l) (hb0 : l[i]? = some b0) (hr0 : b0.recs[k]? = some r0) :
    Calls Tryd.prog 22 #[v, .int .i64 i, .int .i64 k] w (IffPost (∃ j m, Hit l r0.key j m ∧ Behind j m i k) w) := by
  obtain ⟨oa, cap, rfl, hcl⟩ := h
  have H := Lib.hid hcl
  have G := Lib.hid hg
  have hl8 := hg.len
  have hi := (List.getElem?_eq_some_iff.1 hb0).1
  have hkl := (List.getElem?_eq_some_iff.1 hr0).1
  have hlen := (hg.bats b0 (List.mem_of_getElem? hb0)).len
  obtain ⟨a, rv, rfl, -, hc, hrr⟩ := hcl i b0 hb0
  obtain ⟨ra, rcap, rfl, hrr⟩ := hrr
  obtain ⟨a2, hv, rfl, -, hcy, -⟩ := hrr k r0 hr0
  obtain ⟨-, -, -, -, -, c5⟩ := hc
  obtain ⟨-, -, -, e3, -, -, -⟩ := hcy
  have HB0 := Lib.hid hb0
  have HR0 := Lib.hid hr0
  generalize hs : r0.key = s at *
  clear hg hcl hrr hb0 hr0 hs
  go_enter Tryd.func22, Tryd.ntmps22
  go_wp2_with fail
  clear c5 e3
  go_loopw [8] (fun jv wr => ∃ j : Nat, jv = .int .i64 j ∧ i ≤ j ∧ j ≤ l.length ∧ (∀ j' m, j' < j → Behind j' m i k → ¬ Hit l s j' m) ∧ Fr (fun _ => False) w wr) (fun jv _ => l.length - (intOf jv).toNat)
  case atStart => exact ⟨i, rfl, Nat.le_refl _, by omega, fun j' m h1 h2 => by unfold Behind at h2; omega, Fr.same _⟩
  case round =>
    obtain ⟨j, rfl, hij, hj, hno, hf⟩ := hrel
    have F := Lib.hid hf
    have NO := Lib.hid hno
    clear hf hno
    rcases Nat.lt_or_ge j l.length with hlt | hge
    · obtain ⟨x, hx⟩ := get_of_lt hlt
      obtain ⟨a', rv, ha', -, hc, hrr⟩ := H.out j x hx
      injection ha' with ha'
      subst ha'
      obtain ⟨rb, rcap, rfl, hrr⟩ := hrr
      have HX := Lib.hid hx
      have HRR := Lib.hid hrr
      have HC := Lib.hid hc
      have hlen50 := (G.out.bats x (List.mem_of_getElem? hx)).len
      have hstart : ∃ m0 : Nat, (m0 = if j = i then k + 1 else 0) ∧ m0 ≤ x.recs.length ∧ Behind j m0 i k ∧ ∀ m, m < m0 → Behind j m i k → ¬ Hit l s j m := by
        by_cases e : j = i
        · subst e
          have h1 := HB0.out
          rw [hx] at h1
          injection h1 with h1
          subst h1
          exact ⟨k + 1, by simp, by omega, .inr ⟨rfl, by omega⟩, fun m hm hB => by unfold Behind at hB; omega⟩
        · exact ⟨0, by simp [e], Nat.zero_le _, .inl (by omega), fun m hm => by omega⟩
      obtain ⟨m0, hm0, hm0l, hm0b, hm0n⟩ := hstart
      have HM := Lib.hid hm0n
      clear hx hrr hc hm0n
      by_cases e : j = i
      · subst e
        rw [if_pos rfl] at hm0
        subst hm0
        go_wp2_with fail
        go_loopw [10] (fun mv wr => ∃ m : Nat, mv = .int .i64 m ∧ m ≤ x.recs.length ∧ Behind j m j k ∧ (∀ m', m' < m → Behind j m' j k → ¬ Hit l s j m') ∧ Fr (fun _ => False) w wr) (fun mv _ => x.recs.length - (intOf mv).toNat)
        case atStart => exact ⟨_, by go_num, hm0l, hm0b, HM.out, F.out⟩
        case round =>
          obtain ⟨m, rfl, hm, hmb, hmn, hf⟩ := hrel
          have FQ := Lib.hid hf
          have NM := Lib.hid hmn
          have BH := Lib.hid hmb
          have c5 := hf.cel HC.out.c5
          clear hf hmn hmb
          rcases Nat.lt_or_ge m x.recs.length with hq1 | hq1
          · obtain ⟨y, hy⟩ := get_of_lt hq1
            obtain ⟨a3, hv, rfl, -, hcy, hhy⟩ := HRR.out m y hy
            obtain ⟨ha, hcap, rfl, -⟩ := hhy
            have HY := Lib.hid hy
            have hf2 := FQ.out.alloc (.cells (recCells y (.slice ha y.hs.length hcap)).toArray 39)
            obtain ⟨e0, e1, e2, e3, e4, e5, e6⟩ := hcy.to (FQ.out.block _ hcy.lt fun h => h)
            have F2 := Lib.hid hf2
            unfold recCells at F2
            clear hy hcy hf2
            by_cases hyes : y.bare = false ∧ y.key = s
            · obtain ⟨hyb, hyk⟩ := hyes
              have HIT := Lib.hid (show Hit l s j m from ⟨x, y, HX.out, HY.out, hyb, hyk⟩)
              rw [hyb] at e2 F2
              rw [hyk] at e3 F2
              go_wp2_with fail
              go_ret
              exact ⟨true, rfl, ⟨fun _ => ⟨j, m, HIT.out, BH.out⟩, fun _ => rfl⟩, F2.out⟩
            · have hno : y.bare = true ∨ (y.bare = false ∧ (y.key.toList == s.toList) = false) := by
                cases h : y.bare
                · exact .inr ⟨rfl, key_ne fun e => hyes ⟨h, e⟩⟩
                · exact .inl rfl
              have HNO := Lib.hid hyes
              clear hyes
              rcases hno with hyb | ⟨hyb, hyk⟩
              all_goals
                rw [hyb] at e2 F2
                go_wp2_with fail
                go_roundw
                case rel =>
                  refine ⟨m + 1, by go_num, by omega, by have := BH.out; unfold Behind at this ⊢; omega, fun m' h1 h2 => ?_, F2.out⟩
                  by_cases e9 : m' = m
                  · subst e9
                    rintro ⟨b', r', h3, h4, h5, h6⟩
                    rw [HX.out] at h3; injection h3 with h3; subst h3
                    rw [HY.out] at h4; injection h4 with h4; subst h4
                    exact HNO.out ⟨h5, h6⟩
                  · exact NM.out m' (by omega) h2
                case measure => simp [intOf]; omega
          · go_wp2_with fail
            go_roundw
            case rel =>
              refine ⟨j + 1, by go_num, by omega, by omega, fun j' m' h1 h2 => ?_, FQ.out⟩
              by_cases e9 : j' = j
              · subst e9
                rintro ⟨b', r', h3, h4, h5⟩
                have h6 := h4
                rw [HX.out] at h3; injection h3 with h3; subst h3
                have h7 := (List.getElem?_eq_some_iff.1 h6).1
                exact NM.out m' (by omega) h2 ⟨_, r', HX.out, h6, h5⟩
              · exact NO.out j' m' (by omega) h2
            case measure => simp [intOf]; omega
      · rw [if_neg e] at hm0
        subst hm0
        go_wp2_with fail
        go_loopw [10] (fun mv wr => ∃ m : Nat, mv = .int .i64 m ∧ m ≤ x.recs.length ∧ Behind j m i k ∧ (∀ m', m' < m → Behind j m' i k → ¬ Hit l s j m') ∧ Fr (fun _ => False) w wr) (fun mv _ => x.recs.length - (intOf mv).toNat)
        case atStart => exact ⟨_, by go_num, hm0l, hm0b, HM.out, F.out⟩
        case round =>
          obtain ⟨m, rfl, hm, hmb, hmn, hf⟩ := hrel
          have FQ := Lib.hid hf
          have NM := Lib.hid hmn
          have BH := Lib.hid hmb
          have c5 := hf.cel HC.out.c5
          clear hf hmn hmb
          rcases Nat.lt_or_ge m x.recs.length with hq1 | hq1
          · obtain ⟨y, hy⟩ := get_of_lt hq1
            obtain ⟨a3, hv, rfl, -, hcy, hhy⟩ := HRR.out m y hy
            obtain ⟨ha, hcap, rfl, -⟩ := hhy
            have HY := Lib.hid hy
            have hf2 := FQ.out.alloc (.cells (recCells y (.slice ha y.hs.length hcap)).toArray 39)
            obtain ⟨e0, e1, e2, e3, e4, e5, e6⟩ := hcy.to (FQ.out.block _ hcy.lt fun h => h)
            have F2 := Lib.hid hf2
            unfold recCells at F2
            clear hy hcy hf2
            by_cases hyes : y.bare = false ∧ y.key = s
            · obtain ⟨hyb, hyk⟩ := hyes
              have HIT := Lib.hid (show Hit l s j m from ⟨x, y, HX.out, HY.out, hyb, hyk⟩)
              rw [hyb] at e2 F2
              rw [hyk] at e3 F2
              go_wp2_with fail
              go_ret
              exact ⟨true, rfl, ⟨fun _ => ⟨j, m, HIT.out, BH.out⟩, fun _ => rfl⟩, F2.out⟩
            · have hno : y.bare = true ∨ (y.bare = false ∧ (y.key.toList == s.toList) = false) := by
                cases h : y.bare
                · exact .inr ⟨rfl, key_ne fun e => hyes ⟨h, e⟩⟩
                · exact .inl rfl
              have HNO := Lib.hid hyes
              clear hyes
              rcases hno with hyb | ⟨hyb, hyk⟩
              all_goals
                rw [hyb] at e2 F2
                go_wp2_with fail
                go_roundw
                case rel =>
                  refine ⟨m + 1, by go_num, by omega, by have := BH.out; unfold Behind at this ⊢; omega, fun m' h1 h2 => ?_, F2.out⟩
                  by_cases e9 : m' = m
                  · subst e9
                    rintro ⟨b', r', h3, h4, h5, h6⟩
                    rw [HX.out] at h3; injection h3 with h3; subst h3
                    rw [HY.out] at h4; injection h4 with h4; subst h4
                    exact HNO.out ⟨h5, h6⟩
                  · exact NM.out m' (by omega) h2
                case measure => simp [intOf]; omega
          · go_wp2_with fail
            go_roundw
            case rel =>
              refine ⟨j + 1, by go_num, by omega, by omega, fun j' m' h1 h2 => ?_, FQ.out⟩
              by_cases e9 : j' = j
              · subst e9
                rintro ⟨b', r', h3, h4, h5⟩
                have h6 := h4
                rw [HX.out] at h3; injection h3 with h3; subst h3
                have h7 := (List.getElem?_eq_some_iff.1 h6).1
                exact NM.out m' (by omega) h2 ⟨_, r', HX.out, h6, h5⟩
              · exact NO.out j' m' (by omega) h2
            case measure => simp [intOf]; omega
    · go_wp2_with fail
      go_ret
      refine ⟨false, rfl, ⟨fun h => (by cases h), fun ⟨j', m, h1, h2⟩ => absurd h1 (NO.out j' m ?_ h2)⟩, F.out⟩
      obtain ⟨b, r, h3, -⟩ := h1
      have := (List.getElem?_eq_some_iff.1 h3).1
      omega

set_option maxRecDepth 100000 in
set_option maxHeartbeats 8000000 in
theorem rlast_walk (K : Nat → Prop) (l : List Bat) (i : Nat) (b0 : Bat) (v : Value) (w : World) (h : BatsR K w v l) (hg : GoodL l) (hb0 : l[i]? = some b0) :
    Calls Tryd.prog 23 #[v, .int .i64 i] w (IffPost (0 ≤ b0.prod ∧ ∀ j b, i < j → l[j]? = some b → b.prod ≠ b0.prod) w) := by
  obtain ⟨oa, cap, rfl, hcl⟩ := h
  have H := Lib.hid hcl
  have hl8 := hg.len
  have hi := (List.getElem?_eq_some_iff.1 hb0).1
  obtain ⟨a, rv, rfl, -, hc, -⟩ := hcl i b0 hb0
  have HC := Lib.hid hc
  have c2 := hc.c2
  clear hg hcl hb0 hc
  rcases Classical.em (0 ≤ b0.prod) with hp | hp
  · go_enter Tryd.func23, Tryd.ntmps23
    go_wp2_with fail
    clear c2
    go_loopw [5] (fun jv wr => ∃ j : Nat, jv = .int .i64 j ∧ i < j ∧ j ≤ l.length ∧ (∀ j' b, i < j' → j' < j → l[j']? = some b → b.prod ≠ b0.prod) ∧ Fr (fun _ => False) w wr) (fun jv _ => l.length - (intOf jv).toNat)
    case atStart => exact ⟨i + 1, by go_num, by omega, by omega, fun j' b h1 h2 => by omega, Fr.same _⟩
    case round =>
      obtain ⟨j, rfl, hij, hj, hno, hf⟩ := hrel
      have F := Lib.hid hf
      have NO := Lib.hid hno
      clear hf hno
      rcases Nat.lt_or_ge j l.length with hlt | hge
      · obtain ⟨x, hx⟩ := get_of_lt hlt
        obtain ⟨a', rv, ha', -, hc, -⟩ := H.out j x hx
        injection ha' with ha'
        subst ha'
        have c2 := F.out.cel hc.c2
        have d2 := F.out.cel HC.out.c2
        have HX := Lib.hid hx
        clear hx hc
        by_cases e : x.prod = b0.prod
        · have HE := Lib.hid e
          rw [e] at c2
          clear e
          go_wp2_with fail
          go_quiet (fail)
          have F2 := Lib.hid (F.out.drewN nq)
          clear c2 d2
          go_wp2_with fail
          go_ret
          exact ⟨false, rfl, ⟨fun h => (by cases h), fun h => absurd HE.out (h.2 j x hij HX.out)⟩, F2.out⟩
        · go_wp2_with fail
          go_quiet (fail)
          have F2 := Lib.hid (F.out.drewN nq)
          clear c2 d2
          have HE := Lib.hid e
          go_wp2_with fail
          go_roundw
          case rel =>
            refine ⟨j + 1, by go_num, by omega, by omega, fun j' b h1 h2 h3 => ?_, F2.out⟩
            by_cases e2 : j' = j
            · subst e2
              have h4 := HX.out
              rw [h3] at h4
              injection h4 with h4
              subst h4
              exact HE.out
            · exact NO.out j' b h1 (by omega) h3
          case measure => simp [intOf]; omega
      · go_wp2_with fail
        go_ret
        refine ⟨true, rfl, ⟨fun _ => ⟨hp, fun j' b h1 h2 => NO.out j' b h1 ?_ h2⟩, fun _ => rfl⟩, F.out⟩
        have := (List.getElem?_eq_some_iff.1 h2).1
        omega
  · go_enter Tryd.func23, Tryd.ntmps23
    go_wp2_with fail
    go_ret
    exact ⟨false, rfl, ⟨fun h => (by cases h), fun h => absurd h.1 (by omega)⟩, Fr.same _⟩
end Go.Proofs.YtcnmggmfehdfoaaDoor
