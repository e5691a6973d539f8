/- CleanBare: the walk. -/
import Derived.Test.YtcnmggmfehdfoaaDoorG1
namespace Go.Proofs.YtcnmggmfehdfoaaDoor
open Go.RowKit Go.Fm Go.BigFrame
set_option linter.unusedVariables false
set_option linter.unusedSimpArgs false

def b2n (b : Bool) : Nat := if b then 1 else 0
def bareR (rs : List Rec) : Nat := (rs.map fun r => b2n r.bare).sum
def bareL (l : List Bat) : Nat := (l.map fun b => bareR b.recs).sum
theorem bareR_snoc (l : List Rec) (r : Rec) : bareR (l ++ [r]) = bareR l + b2n r.bare := by simp [bareR]
theorem bareL_snoc (l : List Bat) (b : Bat) : bareL (l ++ [b]) = bareL l + bareR b.recs := by simp [bareL]
theorem bareR_le : ∀ rs : List Rec, bareR rs ≤ rs.length
  | [] => Nat.le_refl _
  | r :: rs => by
    have := bareR_le rs
    have h : bareR (r :: rs) = b2n r.bare + bareR rs := by simp [bareR]
    have h2 : b2n r.bare ≤ 1 := by unfold b2n; split <;> omega
    rw [h]; simp only [List.length_cons]; omega
theorem bareL_le {l : List Bat} (h : ∀ b ∈ l, b.recs.length ≤ 50) : bareL l ≤ 50 * l.length := by
  induction l with
  | nil => simp [bareL]
  | cons b l ih =>
    have h1 : bareL (b :: l) = bareR b.recs + bareL l := by simp [bareL]
    have h2 := bareR_le b.recs
    have h3 := h b (by simp)
    have h4 := ih fun c hc => h c (by simp [hc])
    rw [h1]; simp only [List.length_cons]; omega
theorem bareR_take {rs : List Rec} : ∀ (k : Nat), bareR (rs.take k) ≤ k := fun k => Nat.le_trans (bareR_le _) (by simp; omega)
theorem kept_bare (f : ByteArray → Option (Nat × Nat)) (before : Int) (i : Nat) (hi : Bool) (rs : List Rec) : ∀ k, k ≤ rs.length → bareR (keptTo f before i hi rs k) = bareR (rs.take k)
  | 0, _ => by simp [keptTo]
  | k + 1, h => by
    obtain ⟨r, hr⟩ := get_of_lt (show k < rs.length by omega)
    have ih := kept_bare f before i hi rs k (by omega)
    rw [take_snoc hr, bareR_snoc]
    cases hg : (hi || !goesB f before i k r) with
    | true => rw [keptTo_yes hr hg, bareR_snoc, ih]
    | false =>
      rw [keptTo_no hr hg, ih]
      have : r.bare = false := by
        cases hb : r.bare with
        | false => rfl
        | true => simp [goesB, hb] at hg
      rw [this]; rfl
theorem clean_bare (f : ByteArray → Option (Nat × Nat)) (g : Int → Option Nat) (upto before : Int) (l : List Bat) : ∀ k, k ≤ l.length → bareL (cleanTo f g upto before l k) = bareL (l.take k)
  | 0, _ => by simp [cleanTo]
  | k + 1, h => by
    obtain ⟨b, hb⟩ := get_of_lt (show k < l.length by omega)
    have ih := clean_bare f g upto before l k (by omega)
    have hk : bareR (keptOf f upto before k b) = bareR b.recs := by
      have := kept_bare f before k (isHi upto b) b.recs b.recs.length (Nat.le_refl _)
      rw [List.take_length] at this
      exact this
    rw [take_snoc hb, bareL_snoc]
    cases hg : (isHi upto b || !(keptOf f upto before k b).isEmpty || g b.prod == some k) with
    | true => rw [cleanTo_yes hb hg, bareL_snoc, ih, hk]
    | false =>
      rw [cleanTo_no hb hg, ih]
      have he : (keptOf f upto before k b).isEmpty = true := by
        cases h : (keptOf f upto before k b).isEmpty with
        | true => rfl
        | false => rw [h] at hg; simp at hg
      have : keptOf f upto before k b = [] := List.isEmpty_iff.1 he
      rw [this] at hk
      rw [← hk]; rfl
theorem clean_all {f : ByteArray → Option (Nat × Nat)} {g : Int → Option Nat} {upto before : Int} {l : List Bat} (h : ∀ b ∈ l, isHi upto b = true) : ∀ k, k ≤ l.length → cleanTo f g upto before l k = l.take k
  | 0, _ => by simp [cleanTo]
  | k + 1, hk => by
    obtain ⟨b, hb⟩ := get_of_lt (show k < l.length by omega)
    have hi := h b (List.mem_of_getElem? hb)
    rw [cleanTo_yes hb (by rw [hi]; rfl), keptOf_hi hi, clean_all h k (by omega), take_snoc hb]

set_option maxRecDepth 100000 in
set_option maxHeartbeats 16000000 in
theorem bare_walk (K : Nat → Prop) (l : List Bat) (upto before : Int) (v : Value) (w : World) (h : BatsR K w v l) (hp : ∀ b ∈ l, (Lit.int .i64 b.prod).wf = true) :
    Calls Tryd.prog 5 #[v, .int .i64 upto, .int .i64 before] w (TruePost w) := by
  obtain ⟨oa, cap, rfl, hcl⟩ := id h
  have H := Lib.hid hcl
  have H0 := Lib.hid h
  have HP := Lib.hid hp
  clear h hp hcl
  go_enter Tryd.func5, Tryd.ntmps5
  go_wp2_with fail
  refine (few_walk K l _ _ H0.out).mono ?_
  rintro e w2 ⟨c, rfl, hc, hf2⟩
  have F2 := Lib.hid hf2
  clear hf2
  cases c with
  | false =>
    clear hc
    go_wp2_with fail
    refine (live_walk _).mono ?_
    rintro e w3 ⟨rfl, hf3⟩
    have F3 := Lib.hid (F2.out.tr hf3)
    clear hf3
    go_wp2_with fail
    go_ret
    exact ⟨rfl, F3.out⟩
  | true =>
    have hg := good_of_few (hc rfl) HP.out
    have G := Lib.hid hg
    have hl8 := hg.len
    have hbl : ∀ k, bareL (l.take k) ≤ 400 := fun k => by
      have h1 := bareL_le (l := l.take k) fun b hb => (hg.bats b (List.mem_of_mem_take hb)).len
      have h2 : (l.take k).length ≤ 8 := by simp; omega
      omega
    have HBL := Lib.hid hbl
    clear hc hg hbl
    go_wp2_with fail
    go_loopw [7, 8] (fun n i wr => ∃ k : Nat, i = .int .i64 k ∧ k ≤ l.length ∧ n = .int .i64 (bareL (l.take k) : Nat) ∧ (∀ b ∈ l.take k, isHi 0 b = true) ∧ Fr (fun _ => False) w wr) (fun _ i _ => l.length - (intOf i).toNat)
    case atStart => exact ⟨0, rfl, Nat.zero_le _, rfl, by simp, F2.out⟩
    case round =>
      obtain ⟨k, rfl, hk, rfl, hhi, hf⟩ := hrel
      have F := Lib.hid hf
      have HI := Lib.hid hhi
      clear hf hhi
      have hbk := HBL.out k
      rcases Nat.lt_or_ge k l.length with hlt | hge
      · obtain ⟨x, hx⟩ := get_of_lt hlt
        obtain ⟨a, rv, rfl, -, hcx, hr⟩ := H.out k x hx
        obtain ⟨ra, rcap, rfl, hrr⟩ := hr
        have HRR := Lib.hid hrr
        have HX := Lib.hid hx
        have HC := Lib.hid hcx
        have hlen50 := (G.out.bats x (List.mem_of_getElem? hx)).len
        obtain ⟨c0, c1, c2, c3, c4, c5⟩ := hcx.to (F.out.block _ hcx.lt fun h => h)
        have hnx := HBL.out (k + 1)
        rw [take_snoc hx, bareL_snoc] at hnx
        clear hx hcx hrr c2 c3 c4
        by_cases hrange : (0 ≤ x.base ∧ x.base ≤ 1000000) ∧ 1 ≤ x.span ∧ x.span ≤ 1000
        · obtain ⟨⟨hb0, hb1⟩, hs0, hs1⟩ := hrange
          generalize hB : bareL (l.take k) = B at *
          have EB := Lib.hid hB
          clear hB
          go_wp2_with fail
          go_loopw [7, 9] (fun n i wr => ∃ q : Nat, i = .int .i64 q ∧ q ≤ x.recs.length ∧ n = .int .i64 (B + bareR (x.recs.take q) : Nat) ∧ Fr (fun _ => False) w wr) (fun _ i _ => x.recs.length - (intOf i).toNat)
          case atStart => exact ⟨0, rfl, Nat.zero_le _, by simp [bareR], F.out⟩
          case round =>
            obtain ⟨q, rfl, hq, rfl, hf⟩ := hrel
            have FQ := Lib.hid hf
            have c5 := hf.cel HC.out.c5
            clear hf
            have hbq := bareR_take (rs := x.recs) q
            rcases Nat.lt_or_ge q x.recs.length with hq1 | hq1
            · obtain ⟨y, hy⟩ := get_of_lt hq1
              obtain ⟨a2, hv, rfl, -, hcy, -⟩ := HRR.out q y hy
              have e2 := FQ.out.cel hcy.c2
              have hnext : bareR (x.recs.take (q + 1)) = bareR (x.recs.take q) + b2n y.bare := by rw [take_snoc hy, bareR_snoc]
              clear hy hcy
              generalize bareR (x.recs.take q) = R at *
              cases hyb : y.bare
              · rw [hyb] at e2 hnext
                have HN := Lib.hid hnext
                clear hnext
                go_wp2_with fail
                go_roundw
                case rel => exact ⟨q + 1, by go_num, by omega, by rw [HN.out]; rfl, FQ.out⟩
                case measure => simp [intOf]; omega
              · rw [hyb] at e2 hnext
                have HN := Lib.hid hnext
                clear hnext
                go_wp2_with fail
                go_roundw
                case rel => exact ⟨q + 1, by go_num, by omega, by rw [HN.out]; simp [b2n]; go_num, FQ.out⟩
                case measure => simp [intOf]; omega
            · obtain rfl : q = x.recs.length := by omega
              have hnext : bareL (l.take (k + 1)) = B + bareR (x.recs.take x.recs.length) := by rw [take_snoc HX.out, bareL_snoc, EB.out, List.take_length]
              have HN := Lib.hid hnext
              clear hnext
              go_wp2_with fail
              go_roundw
              case rel =>
                refine ⟨k + 1, by go_num, by omega, by rw [HN.out], ?_, FQ.out⟩
                intro b hb
                rw [take_snoc HX.out] at hb
                rcases List.mem_append.1 hb with h3 | h3
                · exact HI.out b h3
                · simp at h3; subst h3; simp [isHi]; omega
              case measure => simp [intOf]; omega
        · have hr2 : x.base < 0 ∨ (0 ≤ x.base ∧ 1000000 < x.base) ∨ ((0 ≤ x.base ∧ x.base ≤ 1000000) ∧ x.span < 1) ∨ ((0 ≤ x.base ∧ x.base ≤ 1000000) ∧ 1 ≤ x.span ∧ 1000 < x.span) := by omega
          clear hrange
          rcases hr2 with h1 | ⟨h1, h2⟩ | ⟨⟨h1, h2⟩, h3⟩ | ⟨⟨h1, h2⟩, h3, h4⟩
          all_goals
            go_wp2_with fail
            refine (live_walk _).mono ?_
            rintro e w3 ⟨rfl, hf3⟩
            have F3 := Lib.hid (F.out.tr hf3)
            clear hf3
            go_wp2_with fail
            go_ret
            exact ⟨rfl, F3.out⟩
      · have hall : ∀ b ∈ l, isHi 0 b = true := by have := HI.out; rwa [List.take_of_length_le hge] at this
        have HALL := Lib.hid hall
        clear hall
        rw [List.take_of_length_le hge]
        rw [List.take_of_length_le hge] at hbk
        have HB := Lib.hid (H0.out.old F.out)
        have GC := Lib.hid (clean_good (f := keysTo l l.length) (g := ownersTo l l.length) (upto := upto) (before := before) G.out)
        have hbc := clean_bare (keysTo l l.length) (ownersTo l l.length) upto before l l.length (Nat.le_refl _)
        rw [List.take_length] at hbc
        have HBC := Lib.hid hbc
        clear hbc
        go_wp2_with fail
        refine (clean_walk K l upto before _ _ HB.out G.out).mono ?_
        rintro e w3 ⟨va, rfl, ha3, hf3⟩
        generalize cleanTo (keysTo l l.length) (ownersTo l l.length) upto before l l.length = c at *
        have hc8 := GC.out.len
        obtain ⟨ca, ccap, rfl, hcc⟩ := ha3
        have HCC := Lib.hid hcc
        have F3 := Lib.hid (F.out.tr hf3)
        have HB3 := Lib.hid (HB.out.old hf3)
        clear hcc hf3
        generalize hN : bareL l = N at *
        clear hN
        go_wp2_with fail
        go_loopw [7, 11] (fun n i wr => ∃ k : Nat, i = .int .i64 k ∧ k ≤ c.length ∧ n = .int .i64 ((N : Int) - (bareL (c.take k) : Nat)) ∧ Fr (fun _ => False) w3 wr) (fun _ i _ => c.length - (intOf i).toNat)
        case atStart => exact ⟨0, rfl, Nat.zero_le _, by simp [bareL], Fr.same _⟩
        case round =>
          obtain ⟨k, rfl, hk, rfl, hf⟩ := hrel
          have FK := Lib.hid hf
          clear hf
          have hck : ∀ k, bareL (c.take k) ≤ 400 := fun k => by
            have h1 := bareL_le (l := c.take k) fun b hb => (GC.out.bats b (List.mem_of_mem_take hb)).len
            have h2 : (c.take k).length ≤ 8 := by simp; omega
            omega
          have hk1 := hck k
          have hk2 := hck (k + 1)
          clear hck
          rcases Nat.lt_or_ge k c.length with hlt | hge2
          · obtain ⟨x, hx⟩ := get_of_lt hlt
            obtain ⟨a, rv, rfl, -, hcx, hr⟩ := HCC.out k x hx
            obtain ⟨ra, rcap, rfl, hrr⟩ := hr
            have HRR := Lib.hid hrr
            have HX := Lib.hid hx
            have HC := Lib.hid hcx
            have hlen50 := (GC.out.bats x (List.mem_of_getElem? hx)).len
            obtain ⟨c0, c1, c2, c3, c4, c5⟩ := hcx.to (FK.out.block _ hcx.lt fun h => h)
            clear hx hcx hrr c0 c1 c2 c3 c4
            generalize hB : bareL (c.take k) = B at *
            have EB := Lib.hid hB
            clear hB
            go_wp2_with fail
            go_loopw [7, 12] (fun n i wr => ∃ q : Nat, i = .int .i64 q ∧ q ≤ x.recs.length ∧ n = .int .i64 ((N : Int) - (B + bareR (x.recs.take q) : Nat)) ∧ Fr (fun _ => False) w3 wr) (fun _ i _ => x.recs.length - (intOf i).toNat)
            case atStart => exact ⟨0, rfl, Nat.zero_le _, by simp [bareR], FK.out⟩
            case round =>
              obtain ⟨q, rfl, hq, rfl, hf⟩ := hrel
              have FQ := Lib.hid hf
              have c5 := hf.cel HC.out.c5
              clear hf
              have hbq := bareR_take (rs := x.recs) q
              rcases Nat.lt_or_ge q x.recs.length with hq1 | hq1
              · obtain ⟨y, hy⟩ := get_of_lt hq1
                obtain ⟨a2, hv, rfl, -, hcy, -⟩ := HRR.out q y hy
                have e2 := FQ.out.cel hcy.c2
                have hnext : bareR (x.recs.take (q + 1)) = bareR (x.recs.take q) + b2n y.bare := by rw [take_snoc hy, bareR_snoc]
                clear hy hcy
                generalize bareR (x.recs.take q) = R at *
                cases hyb : y.bare
                · rw [hyb] at e2 hnext
                  have HN := Lib.hid hnext
                  clear hnext
                  go_wp2_with fail
                  go_roundw
                  case rel => exact ⟨q + 1, by go_num, by omega, by rw [HN.out]; rfl, FQ.out⟩
                  case measure => simp [intOf]; omega
                · rw [hyb] at e2 hnext
                  have HN := Lib.hid hnext
                  clear hnext
                  go_wp2_with fail
                  go_roundw
                  case rel =>
                    refine ⟨q + 1, by go_num, by omega, ?_, FQ.out⟩
                    rw [HN.out, show b2n true = 1 from rfl]
                    go_num
                  case measure => simp [intOf]; omega
              · obtain rfl : q = x.recs.length := by omega
                have hnext : bareL (c.take (k + 1)) = B + bareR (x.recs.take x.recs.length) := by rw [take_snoc HX.out, bareL_snoc, EB.out, List.take_length]
                have HN := Lib.hid hnext
                clear hnext
                go_wp2_with fail
                go_roundw
                case rel => exact ⟨k + 1, by go_num, by omega, by rw [HN.out], FQ.out⟩
                case measure => simp [intOf]; omega
          · have hz : bareL (c.take k) = N := by rw [List.take_of_length_le hge2]; exact HBC.out
            rw [hz]
            have F4 := Lib.hid (F3.out.tr FK.out)
            have HB4 := Lib.hid (HB3.out.old FK.out)
            have hsub : ((N : Int) - (N : Nat)) = 0 := by omega
            rw [hsub]
            clear hz hsub hk1 hk2
            go_wp2_with fail
            refine (clean_walk K l 0 before _ _ HB4.out G.out).mono ?_
            rintro e w5 ⟨vb, rfl, hb5, hf5⟩
            rw [clean_all HALL.out l.length (Nat.le_refl _), List.take_length] at hb5
            have HB5 := Lib.hid hb5
            have HW5 := Lib.hid (HB4.out.old hf5)
            have F5 := Lib.hid (F4.out.tr hf5)
            clear hb5 hf5
            go_wp2_with fail
            refine (same_good _ K l _ _ _ HB5.out HW5.out G.out).mono ?_
            rintro e w6 ⟨rfl, hf6⟩
            have F6 := Lib.hid (F5.out.tr hf6)
            clear hf6
            go_wp2_with fail
            refine (live_walk _).mono ?_
            rintro e w7 ⟨rfl, hf7⟩
            have F7 := Lib.hid (F6.out.tr hf7)
            clear hf7
            go_wp2_with fail
            go_ret
            exact ⟨rfl, F7.out⟩
end Go.Proofs.YtcnmggmfehdfoaaDoor
