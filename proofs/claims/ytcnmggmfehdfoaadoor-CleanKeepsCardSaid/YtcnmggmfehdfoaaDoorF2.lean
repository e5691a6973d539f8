/- few: the walk. -/
import Derived.Test.YtcnmggmfehdfoaaDoorF1
namespace Go.Proofs.YtcnmggmfehdfoaaDoor
open Go.RowKit Go.Fm Go.BigFrame
set_option linter.unusedVariables false
set_option linter.unusedSimpArgs false

structure FewB (b : Bat) : Prop where
  small : SmallB b
  base0 : 0 ≤ b.base
  base1 : b.base ≤ 2199023255552
  span0 : 0 ≤ b.span
  span1 : b.span ≤ 1000
  recs : ∀ r ∈ b.recs, 0 ≤ r.at' ∧ r.at' ≤ 1000
structure Few (l : List Bat) : Prop where
  len : l.length ≤ 8
  bats : ∀ b ∈ l, FewB b

set_option maxRecDepth 100000 in
set_option maxHeartbeats 8000000 in
theorem few_walk (K : Nat → Prop) (l : List Bat) (v : Value) (w : World) (h : BatsR K w v l) :
    Calls Tryd.prog 6 #[v] w (AskPost (Few l) w) := by
  obtain ⟨oa, cap, rfl, h⟩ := h
  have H := Lib.hid h
  clear h
  rcases Nat.lt_or_ge 8 l.length with hbig | hlen
  · go_enter Tryd.func6, Tryd.ntmps6
    go_wp2_with fail
    go_ret
    exact ⟨false, rfl, by simp, Fr.same _⟩
  · go_enter Tryd.func6, Tryd.ntmps6
    go_wp2_with fail
    go_loopw [3] (fun i wr => ∃ k : Nat, i = .int .i64 k ∧ k ≤ l.length ∧ (∀ b ∈ l.take k, FewB b) ∧ Fr (fun _ => False) w wr) (fun i _ => l.length - (intOf i).toNat)
    case atStart => exact ⟨0, rfl, Nat.zero_le _, by simp, Fr.same _⟩
    case round =>
      obtain ⟨k, rfl, hk, hok, hf⟩ := hrel
      have F := Lib.hid hf
      have HOK := Lib.hid hok
      clear hf hok
      rcases Nat.lt_or_ge k l.length with hlt | hge
      · obtain ⟨x, hx⟩ := get_of_lt hlt
        obtain ⟨a, rv, rfl, -, hc, hr⟩ := H.out k x hx
        have HX := Lib.hid hx
        have HC := Lib.hid (hc.to (F.out.block _ hc.lt fun h => h))
        have HR := Lib.hid (hr.old F.out)
        obtain ⟨c0, c1, c2, c3, c4, c5⟩ := HC.out
        clear hx hc hr
        go_wp2_with fail
        refine (small_walk K x rv _ HR.out).mono ?_
        rintro e w2 ⟨c, rfl, hcs, hf2⟩
        clear c0 c1 c2 c3 c4 c5
        have F2 := Lib.hid hf2
        obtain ⟨c0, c1, -, -, -, c5⟩ := HC.out.to (hf2.block _ HC.out.lt fun h => h)
        obtain ⟨ra, rcap, rfl, hrr⟩ := HR.out.old hf2
        have HRR := Lib.hid hrr
        clear hf2 hrr
        cases c with
        | false =>
          clear hcs
          go_wp2_with fail
          go_ret
          exact ⟨false, rfl, by simp, F.out.tr F2.out⟩
        | true =>
          have HS := Lib.hid (hcs rfl)
          have hlen50 := HS.out.len
          clear hcs
          by_cases hrange : (0 ≤ x.base ∧ x.base ≤ 2199023255552) ∧ 0 ≤ x.span ∧ x.span ≤ 1000
          · obtain ⟨⟨hb0, hb1⟩, hs0, hs1⟩ := hrange
            go_wp2_with fail
            have C0 := Lib.hid c0
            have C5 := Lib.hid c5
            clear c0 c1 c5
            go_loopw [4] (fun i wr => ∃ q : Nat, i = .int .i64 q ∧ q ≤ x.recs.length ∧ (∀ r ∈ x.recs.take q, 0 ≤ r.at' ∧ r.at' ≤ 1000) ∧ Fr (fun _ => False) w2 wr) (fun i _ => x.recs.length - (intOf i).toNat)
            case atStart => exact ⟨0, rfl, Nat.zero_le _, by simp, Fr.same _⟩
            case round =>
              obtain ⟨q, rfl, hq, hoq, hf⟩ := hrel
              have G := Lib.hid hf
              have HOQ := Lib.hid hoq
              have c5 := hf.cel C5.out
              clear hf hoq
              rcases Nat.lt_or_ge q x.recs.length with hq1 | hq1
              · obtain ⟨y, hy⟩ := get_of_lt hq1
                obtain ⟨a2, hv, rfl, -, hcy, -⟩ := HRR.out q y hy
                have HY := Lib.hid hy
                have e0 := G.out.cel hcy.c0
                clear hy hcy
                by_cases hat : 0 ≤ y.at' ∧ y.at' ≤ 1000
                · obtain ⟨ha0, ha1⟩ := hat
                  go_wp2_with fail
                  go_roundw
                  case rel =>
                    refine ⟨q + 1, by go_num, by omega, ?_, G.out⟩
                    intro r hr
                    rw [take_snoc HY.out] at hr
                    rcases List.mem_append.1 hr with h3 | h3
                    · exact HOQ.out r h3
                    · simp at h3; subst h3; exact ⟨ha0, ha1⟩
                  case measure => simp [intOf]; omega
                · have hat2 : y.at' < 0 ∨ (0 ≤ y.at' ∧ 1000 < y.at') := by omega
                  clear hat
                  rcases hat2 with ha0 | ⟨ha0, ha1⟩
                  all_goals
                    go_wp2_with fail
                    go_ret
                    exact ⟨false, rfl, by simp, (F.out.tr F2.out).tr G.out⟩
              · go_wp2_with fail
                go_roundw
                case rel =>
                  have h2 := HOQ.out
                  rw [List.take_of_length_le hq1] at h2
                  refine ⟨k + 1, by go_num, by omega, ?_, (F.out.tr F2.out).tr G.out⟩
                  intro b hb
                  rw [take_snoc HX.out] at hb
                  rcases List.mem_append.1 hb with h3 | h3
                  · exact HOK.out b h3
                  · simp at h3; subst h3; exact ⟨HS.out, hb0, hb1, hs0, hs1, h2⟩
                case measure => simp [intOf]; omega
          · have hr2 : x.base < 0 ∨ (0 ≤ x.base ∧ 2199023255552 < x.base) ∨ ((0 ≤ x.base ∧ x.base ≤ 2199023255552) ∧ x.span < 0) ∨ ((0 ≤ x.base ∧ x.base ≤ 2199023255552) ∧ 0 ≤ x.span ∧ 1000 < x.span) := by omega
            clear hrange
            rcases hr2 with h1 | ⟨h1, h2⟩ | ⟨⟨h1, h2⟩, h3⟩ | ⟨⟨h1, h2⟩, h3, h4⟩
            all_goals
              go_wp2_with fail
              go_ret
              exact ⟨false, rfl, by simp, F.out.tr F2.out⟩
      · go_wp2_with fail
        go_ret
        have h2 := HOK.out
        rw [List.take_of_length_le hge] at h2
        exact ⟨true, rfl, fun _ => ⟨hlen, h2⟩, F.out⟩
end Go.Proofs.YtcnmggmfehdfoaaDoor
