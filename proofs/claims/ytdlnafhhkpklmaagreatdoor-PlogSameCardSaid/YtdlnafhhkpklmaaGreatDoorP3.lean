/- One thing after the other (plog.all): the walk. -/
import Derived.Test.YtdlnafhhkpklmaaGreatDoorP2
namespace Go.Proofs.YtdlnafhhkpklmaaGreatDoor
open Go.RowKit Go.Fm Go.BigFrame Go.Shelf
set_option linter.unusedVariables false
set_option linter.unusedSimpArgs false
set_option maxRecDepth 100000

/-- A thing to do: a function, what is bound, what it takes along. -/
structure Doing where
  f : Nat
  b : List Value
  c : List Value
def Doing.v (d : Doing) : Value := .func (.func d.f) d.b.toArray d.c.toArray
def AllPost (St : Nat → World → Prop) (Bad : Int → World → Prop) (n : Nat) (e : Ending) (w' : World) : Prop :=
  (e = .returned (.int .i64 0) ∧ St n w') ∨ ∃ c : Int, c ≠ 0 ∧ e = .returned (.int .i64 c) ∧ Bad c w'
theorem all_walk (ds : List Doing) (g cap : Nat) (St : Nat → World → Prop) (Bad : Int → World → Prop) (w : World) (hl : ds.length ≤ 100)
    (hcf : ∀ d ∈ ds, ∀ args w, (callFunc d.f args).run Tryz.prog w = .ok (.enter d.f args) w)
    (hcell : ∀ k d, ds[k]? = some d → ∀ w', St k w' → w'.cell? ⟨g, k, none⟩ = some d.v)
    (hrun : ∀ k d, ds[k]? = some d → ∀ w', St k w' → Calls Tryz.prog d.f (d.b ++ d.c).toArray w' fun e w2 => ∃ c : Int, e = .returned (.int .i64 c) ∧ (c = 0 → St (k + 1) w2) ∧ (c ≠ 0 → Bad c w2))
    (h0 : St 0 w) : Calls Tryz.prog 39 #[.slice (some ⟨g, 0, none⟩) ds.length cap] w (AllPost St Bad ds.length) := by
  have HC := Lib.hid hcell
  have HR := Lib.hid hrun
  have HF := Lib.hid hcf
  clear hcell hrun hcf
  go_enter Tryz.func39, Tryz.ntmps39
  go_wp2_with fail
  go_loopw [8] (fun i wr => ∃ k : Nat, i = .int .i64 k ∧ k ≤ ds.length ∧ St k wr) (fun i _ => ds.length - (intOf i).toNat)
  case atStart => exact ⟨0, rfl, Nat.zero_le _, h0⟩
  case round =>
    obtain ⟨k, rfl, hk, hs⟩ := hrel
    rcases Nat.lt_or_ge k ds.length with hlt | hge
    · obtain ⟨d, hd⟩ := get_of_lt hlt
      have hc := HC.out k d hd _ hs
      have hr := HR.out k d hd _ hs
      have hcf := HF.out d (List.mem_of_getElem? hd)
      have HRR := Lib.hid hr
      obtain ⟨f, b, c⟩ := d
      unfold Doing.v at hc
      dsimp only at hc hcf
      clear hr
      go_wp2_with fail
      refine HRR.out.mono ?_
      rintro e w2 ⟨c2, rfl, hok, hno⟩
      clear hc hcf
      by_cases hz : c2 = 0
      · subst hz
        have HOK := Lib.hid (hok rfl)
        clear hok hno
        go_wp2_with fail
        go_roundw
        case rel => exact ⟨k + 1, by go_num, hlt, HOK.out⟩
        case measure => simp [intOf]; omega
      · have HNO := Lib.hid (hno hz)
        have hq : (c2 != 0) = true := by simpa using hz
        clear hok hno
        go_wp2_with fail
        go_ret
        exact .inr ⟨c2, hz, rfl, HNO.out⟩
    · go_wp2_with fail
      go_ret
      obtain rfl : k = ds.length := by omega
      exact .inl ⟨rfl, hs⟩
end Go.Proofs.YtdlnafhhkpklmaaGreatDoor
