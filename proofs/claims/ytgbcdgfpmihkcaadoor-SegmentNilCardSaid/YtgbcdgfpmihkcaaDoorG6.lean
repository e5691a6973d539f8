/- from of a segment: the walk; Read: laws. -/
import Derived.Test.YtgbcdgfpmihkcaaDoorG5
namespace Go.Proofs.YtgbcdgfpmihkcaaDoor
open Go.RowKit Go.Fm Go.BigFrame Go.Shelf Go.Maps
set_option linter.unusedVariables false
set_option linter.unusedSimpArgs false
set_option maxRecDepth 100000

theorem cmp_walk (k : Kep) (oa : Option Addr) (n cap : Nat) (p : Int) (w : World) (h1 : k.pos ≤ 1000000000) (h2 : 0 ≤ p) (h3 : p ≤ 1099511627776) :
    Calls Tryd.prog 42 #[kepV k (.slice oa n cap), .int .i64 p] w fun e w' => e = .returned (.int .i64 ((k.pos : Int) - p)) ∧ Fr (fun _ => False) w w' := by
  unfold kepV
  go_enter Tryd.func42, Tryd.ntmps42
  go_wp2_with fail
  go_ret
  exact ⟨rfl, (Fr.same _).alloc _⟩
/-- The number of the first of them at a place or behind it. -/
def BsPost (ks : List Kep) (p : Int) (w : World) (e : Ending) (w' : World) : Prop :=
  ∃ (r : Nat) (f : Bool), e = .returned (.tuple #[.int .i64 r, .bool f]) ∧ r ≤ ks.length ∧ (∀ (i : Nat) (k : Kep), ks[i]? = some k → i < r → (k.pos : Int) < p) ∧ (∀ (i : Nat) (k : Kep), ks[i]? = some k → r ≤ i → p ≤ k.pos) ∧ Fr (fun _ => False) w w'
structure BsMid (ks : List Kep) (p : Int) (w : World) (a b : Nat) (wr : World) : Prop where
  ab : a ≤ b
  bn : b ≤ ks.length
  lo : ∀ (i : Nat) (k : Kep), ks[i]? = some k → i < a → (k.pos : Int) < p
  hi : ∀ (i : Nat) (k : Kep), ks[i]? = some k → b ≤ i → p ≤ k.pos
  fr : Fr (fun _ => False) w wr
set_option maxHeartbeats 4000000 in
theorem bs_walk (K : Nat → Prop) (ks : List Kep) (v : Value) (p : Int) (w : World) (h : KepsR K w v ks) (hl : ks.length ≤ 1000) (hpos : ∀ (i j : Nat) (k k' : Kep), ks[i]? = some k → ks[j]? = some k' → i ≤ j → k.pos ≤ k'.pos) (hle : ∀ (i : Nat) (k : Kep), ks[i]? = some k → k.pos ≤ 1000000000) (h2 : 0 ≤ p) (h3 : p ≤ 1099511627776) :
    Calls Tryd.prog 41 #[v, .int .i64 p, .func (.func 42) #[] #[]] w (BsPost ks p w) := by
  obtain ⟨oa, cap, rfl, -, h⟩ := h
  have H := Lib.hid h
  have HP := Lib.hid hpos
  have HL := Lib.hid hle
  clear h hpos hle
  go_enter Tryd.func41, Tryd.ntmps41
  go_wp2_with fail
  go_loopw [9, 10] (fun i j wr => ∃ a b : Nat, i = .int .i64 a ∧ j = .int .i64 b ∧ BsMid ks p w a b wr) (fun i j _ => (intOf j - intOf i).toNat)
  case atStart => exact ⟨0, ks.length, rfl, rfl, Nat.zero_le _, Nat.le_refl _, fun i k _ h => absurd h (by omega), fun i k h h' => by have := (List.getElem?_eq_some_iff.1 h).1; omega, Fr.same _⟩
  case round =>
    obtain ⟨a, b, rfl, rfl, hm⟩ := hrel
    have hab := hm.ab
    have hbn := hm.bn
    have M := Lib.hid hm
    clear hm
    by_cases hlt : a < b
    · obtain ⟨h, hh⟩ : ∃ h, h = (a + b) / 2 := ⟨_, rfl⟩
      have hh2 : ((a : Int) + b) / 2 = (h : Int) := by omega
      have hah : a ≤ h := by omega
      have hhb : h < b := by omega
      have HH := Lib.hid hh
      clear hh
      obtain ⟨x, hx⟩ := get_of_lt (show h < ks.length by omega)
      obtain ⟨A, rv, rfl, -, hc, hr⟩ := H.out h x hx
      obtain ⟨c0, c1, c2, c3, c4, c5, c6, c7⟩ := hc.to (M.out.fr.block _ hc.lt fun h => h)
      obtain ⟨ra, rcap, rfl, -⟩ := hr
      have hxl := HL.out h x hx
      have HX := Lib.hid hx
      have HC := Lib.hid (cmp_walk x ra x.b.recs.length rcap p wr hxl h2 h3)
      clear hx hc
      unfold kepV at HC
      by_cases hq : (x.pos : Int) < p
      · have hq1 : decide ((x.pos : Int) - p < 0) = true := by simp; omega
        have HQ := Lib.hid hq
        clear hq
        go_wp2_with fail
        refine HC.out.mono ?_
        rintro e w' ⟨rfl, hf⟩
        have F := Lib.hid (M.out.fr.tr hf)
        clear hf HC c0 c1 c2 c3 c4 c5 c6 c7
        go_wp2_with fail
        go_roundw
        case rel => exact ⟨h + 1, b, by go_num, rfl, by omega, hbn, fun i k hk hi => by
          have := HP.out i h k x hk HX.out (by omega)
          have := HQ.out
          omega, M.out.hi, F.out⟩
        case measure => simp [intOf]; omega
      · have hq1 : decide ((x.pos : Int) - p < 0) = false := by simp; omega
        have HQ := Lib.hid hq
        clear hq
        go_wp2_with fail
        refine HC.out.mono ?_
        rintro e w' ⟨rfl, hf⟩
        have F := Lib.hid (M.out.fr.tr hf)
        clear hf HC c0 c1 c2 c3 c4 c5 c6 c7
        go_wp2_with fail
        go_roundw
        case rel => exact ⟨a, h, rfl, rfl, hah, by omega, M.out.lo, fun i k hk hi => by
          have := HP.out h i x k HX.out hk hi
          have := HQ.out
          omega, F.out⟩
        case measure => simp [intOf]; omega
    · obtain rfl : a = b := by omega
      rcases Nat.lt_or_ge a ks.length with hl2 | hl2
      · obtain ⟨x, hx⟩ := get_of_lt hl2
        obtain ⟨A, rv, rfl, -, hc, hr⟩ := H.out a x hx
        obtain ⟨c0, c1, c2, c3, c4, c5, c6, c7⟩ := hc.to (M.out.fr.block _ hc.lt fun h => h)
        obtain ⟨ra, rcap, rfl, -⟩ := hr
        have hxl := HL.out a x hx
        have HC := Lib.hid (cmp_walk x ra x.b.recs.length rcap p wr hxl h2 h3)
        clear hx hc
        unfold kepV at HC
        go_wp2_with fail
        refine HC.out.mono ?_
        rintro e w' ⟨rfl, hf⟩
        have F := Lib.hid (M.out.fr.tr hf)
        clear hf HC c0 c1 c2 c3 c4 c5 c6 c7
        go_wp2_with fail
        go_ret2
        exact ⟨a, _, rfl, hbn, M.out.lo, M.out.hi, F.out⟩
      · go_wp2_with fail
        go_ret2
        exact ⟨a, _, rfl, hbn, M.out.lo, M.out.hi, M.out.fr⟩
end Go.Proofs.YtgbcdgfpmihkcaaDoor
