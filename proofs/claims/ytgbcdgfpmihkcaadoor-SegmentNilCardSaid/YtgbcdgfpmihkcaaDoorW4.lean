/- Walks of the searches. -/
import Derived.Test.YtgbcdgfpmihkcaaDoorW2
namespace Go.Proofs.YtgbcdgfpmihkcaaDoor
open Go.RowKit Go.Fm Go.BigFrame
set_option linter.unusedSimpArgs false
set_option linter.unusedVariables false

set_option maxHeartbeats 400000 in
/-- The test of Find. -/
theorem findTest (b g n cap k go gx : Nat) (o : Int) (eo ep : Nat) (w : World) (hx : w.cell? ⟨gx, 0, none⟩ = some (.pointer (some ⟨b, 0, none⟩))) (ho : w.cell? ⟨go, 0, none⟩ = some (.int .i64 o))
    (h1 : w.cell? ⟨b, 1, none⟩ = some (.slice (some ⟨g, 0, none⟩) n cap)) (hk : k < n) (hn : n ≤ 1000) (h2 : w.cell? ⟨g, k, none⟩ = some (spotV eo ep)) (heo : eo ≤ big) :
    Calls Tryd.prog 52 #[.int .i64 k, .pointer (some ⟨gx, 0, none⟩), .pointer (some ⟨go, 0, none⟩)] w fun e w' => e = .returned (.bool (decide (o < (eo : Int)))) ∧ ∃ m, w' = w.drewN m := by
  have hi1 : ((k : Int)).toNat = k := by omega
  have hi2 : (0 : Int) ≤ (k : Int) := by omega
  have hi3 : (k : Int) < (n : Int) := by omega
  by_cases hd : o < (eo : Int)
  · have hd2 : decide (o < (eo : Int)) = true := by simpa using hd
    rw [hd2]
    go_enter Tryd.func52, Tryd.ntmps52
    go_wp2
    go_quiet ((go_at_call 53; exact Calls.quiet_of_same ((offset_any _ _ heo _).mono fun _ _ h => ⟨h.1, h.2.symm⟩)))
    go_wp2
    go_ret
    exact ⟨rfl, _, rfl⟩
  · have hd2 : decide (o < (eo : Int)) = false := by simpa using hd
    rw [hd2]
    go_enter Tryd.func52, Tryd.ntmps52
    go_wp2
    go_quiet ((go_at_call 53; exact Calls.quiet_of_same ((offset_any _ _ heo _).mono fun _ _ h => ⟨h.1, h.2.symm⟩)))
    go_wp2
    go_ret
    exact ⟨rfl, _, rfl⟩

set_option maxHeartbeats 400000 in
/-- The test of SearchInts. -/
theorem intsTest (ga gx g n cap k : Nat) (x : Int) (v : Int) (w : World) (ha : w.cell? ⟨ga, 0, none⟩ = some (.slice (some ⟨g, 0, none⟩) n cap)) (hx : w.cell? ⟨gx, 0, none⟩ = some (.int .i64 x))
    (hk : k < n) (hn : n ≤ 1000) (h2 : w.cell? ⟨g, k, none⟩ = some (.int .i64 v)) :
    Calls Tryd.prog 65 #[.int .i64 k, .pointer (some ⟨ga, 0, none⟩), .pointer (some ⟨gx, 0, none⟩)] w fun e w' => e = .returned (.bool (decide (x ≤ v))) ∧ ∃ m, w' = w.drewN m := by
  have hi1 : ((k : Int)).toNat = k := by omega
  have hi2 : (0 : Int) ≤ (k : Int) := by omega
  have hi3 : (k : Int) < (n : Int) := by omega
  go_enter Tryd.func65, Tryd.ntmps65
  go_wp2
  go_quiet (fail)
  go_wp2
  go_ret
  exact ⟨rfl, _, rfl⟩

/-- What the search leaves: the first place of which q holds. -/
def SPost (n : Nat) (q : Nat → Bool) (w : World) (e : Ending) (w' : World) : Prop :=
  ∃ r m : Nat, e = .returned (.int .i64 r) ∧ w' = w.drewN m ∧ r ≤ n ∧ (∀ i, i < r → q i = false) ∧ ∀ i, r ≤ i → i < n → q i = true

set_option maxHeartbeats 400000 in
theorem search_any (n : Nat) (hn : n ≤ 1000) (f : Nat) (c1 c2 : Value) (hcf : ∀ args w, (callFunc f args).run Tryd.prog w = .ok (.enter f args) w) (q : Nat → Bool) (hmono : ∀ i j, i ≤ j → j < n → q i = true → q j = true) (w : World)
    (hf : ∀ m k, k < n → Calls Tryd.prog f #[.int .i64 k, c1, c2] (w.drewN m) fun e w' => e = .returned (.bool (q k)) ∧ ∃ m', w' = (w.drewN m).drewN m') :
    Calls Tryd.prog 51 #[.int .i64 n, .func (.func f) #[] #[c1, c2]] w (SPost n q w) := by
  go_enter Tryd.func51, Tryd.ntmps51
  go_wp2
  have HM := Lib.hid hmono
  have HF := Lib.hid hf
  clear hmono hf
  go_loopw [5, 6] (fun i j wr => ∃ a b m : Nat, i = .int .i64 a ∧ j = .int .i64 b ∧ a ≤ b ∧ b ≤ n ∧ Hid (∀ k, k < a → q k = false) ∧ Hid (∀ k, b ≤ k → k < n → q k = true) ∧ wr = w.drewN m) (fun i j _ => (intOf j - intOf i).toNat)
  case atStart => exact ⟨0, n, 0, rfl, rfl, Nat.zero_le _, Nat.le_refl _, fun k hk => absurd hk (by omega), fun k h1 h2 => absurd h2 (by omega), by simp [World.drewN]⟩
  case round =>
    obtain ⟨a, b, m, rfl, rfl, hab, hbn, HA, HB, rfl⟩ := hrel
    by_cases hlt : a < b
    · obtain ⟨h, hh⟩ : ∃ h, h = (a + b) / 2 := ⟨_, rfl⟩
      have hh2 : ((a : Int) + b) / 2 = (h : Int) := by omega
      have hah : a ≤ h := by omega
      have hhb : h < b := by omega
      have HH := Lib.hid hh
      clear hh
      cases hq : q h with
      | true =>
        have HQ := Lib.hid hq
        have hc := HF.out m h (by omega)
        rw [hq] at hc
        have HC := Lib.hid hc
        clear hc hq
        go_wp2_with fail
        refine HC.out.mono ?_
        rintro e w' ⟨rfl, m', rfl⟩
        go_wp2_with fail
        go_roundw
        case rel => exact ⟨a, h, m + m', rfl, rfl, hah, by omega, HA, fun k h1 h2 => HM.out h k h1 h2 HQ.out, rfl⟩
        case measure => simp [intOf]; omega
      | false =>
        have HQ := Lib.hid hq
        have hc := HF.out m h (by omega)
        rw [hq] at hc
        have HC := Lib.hid hc
        clear hc hq
        go_wp2_with fail
        refine HC.out.mono ?_
        rintro e w' ⟨rfl, m', rfl⟩
        go_wp2_with fail
        go_roundw
        case rel =>
          refine ⟨h + 1, b, m + m', by go_num, rfl, by omega, hbn, fun k hk => ?_, HB, rfl⟩
          cases hqk : q k with
          | false => rfl
          | true => exact absurd (HM.out k h (by omega) (by omega) hqk) (by rw [HQ.out]; simp)
        case measure => simp [intOf]; omega
    · obtain rfl : a = b := by omega
      go_wp2_with fail
      go_ret
      exact ⟨a, m, rfl, rfl, hbn, HA.out, HB.out⟩

theorem call_enter {f : FuncId} {fn : Func} {c : Code} (hf : Tryd.prog.funcs[f]? = some fn) (hname : (fn.name == "runtime.NumGoroutine") = false) (hb : fn.body = some c) (args : Array Value) (w : World) :
    (callFunc f args).run Tryd.prog w = .ok (.enter f args) w := by
  have h1 : fn.name ≠ "runtime.NumGoroutine" := by simpa using hname
  simp [callFunc, hf, h1, hb]
theorem call23 (args : Array Value) (w : World) : (callFunc 52 args).run Tryd.prog w = .ok (.enter 52 args) w := call_enter Tryd.func52 (by kernel_rfl) rfl args w
theorem call26 (args : Array Value) (w : World) : (callFunc 65 args).run Tryd.prog w = .ok (.enter 65 args) w := call_enter Tryd.func65 (by kernel_rfl) rfl args w

/-- The last of those that a test lets through, by definition. -/
def lastOf (p : E → Bool) (a : Nat) (l : List E) : Nat := l.foldl (fun a e => if p e then e.p else a) a

theorem lastOf_cut (p : E → Bool) : ∀ (l : List E) (a r : Nat), r ≤ l.length → (∀ i e, i < r → l[i]? = some e → p e = true) → (∀ i e, r ≤ i → l[i]? = some e → p e = false) →
    (r = 0 → lastOf p a l = a) ∧ ∀ k e, r = k + 1 → l[k]? = some e → lastOf p a l = e.p := by
  intro l
  induction l with
  | nil => intro a r hr _ _; exact ⟨fun _ => rfl, fun k e _ h => by simp at h⟩
  | cons x l ih =>
    intro a r hr h1 h2
    cases r with
    | zero =>
      have hx : p x = false := h2 0 x (Nat.le_refl _) rfl
      have := ih a 0 (Nat.zero_le _) (fun i e hi => absurd hi (by omega)) (fun i e _ he => h2 (i + 1) e (by omega) (by simpa using he))
      refine ⟨fun _ => ?_, fun k e h => absurd h (by omega)⟩
      have h3 := this.1 rfl
      simpa [lastOf, hx] using h3
    | succ r =>
      have hx : p x = true := h1 0 x (by omega) rfl
      have := ih x.p r (by simpa using hr) (fun i e hi he => h1 (i + 1) e (by omega) (by simpa using he)) (fun i e hi he => h2 (i + 1) e (by omega) (by simpa using he))
      refine ⟨fun h => absurd h (by omega), fun k e hk he => ?_⟩
      obtain rfl : k = r := by omega
      have e0 : lastOf p a (x :: l) = lastOf p x.p l := by simp [lastOf, hx]
      rw [e0]
      cases k with
      | zero =>
        simp at he
        subst he
        exact this.1 rfl
      | succ k => exact this.2 k e rfl (by simpa using he)

def Ix.find (x : Ix) (o : Int) : Nat := lastOf (fun e => decide ((e.o : Int) ≤ o)) 0 x.es
def Ix.seek (x : Ix) (t : Int) : Nat := lastOf (fun e => decide ((e.t : Int) < t)) 0 x.es

/-- The entries rise. -/
def rise (es : List E) : Prop := es.Pairwise fun a b => a.o < b.o ∧ a.p < b.p ∧ a.t ≤ b.t

theorem rise_get {es : List E} (h : rise es) {i j : Nat} {a b : E} (hij : i ≤ j) (ha : es[i]? = some a) (hb : es[j]? = some b) : a.o ≤ b.o ∧ a.t ≤ b.t := by
  rcases Nat.lt_or_ge i j with hl | hl
  · have hi := (List.getElem?_eq_some_iff.1 ha)
    have hj := (List.getElem?_eq_some_iff.1 hb)
    have := List.pairwise_iff_getElem.1 h i j hi.1 hj.1 hl
    rw [hi.2, hj.2] at this
    omega
  · obtain rfl : i = j := by omega
    rw [ha] at hb
    cases hb
    omega
end Go.Proofs.YtgbcdgfpmihkcaaDoor
