/- The reference's index: walks. -/
import Derived.Test.YtfogmmanebflpaaW7
namespace Go.Proofs.Ytfogmmanebflpaa
open Go.RowKit Go.Fm Go.BigFrame
set_option linter.unusedSimpArgs false
set_option linter.unusedVariables false

theorem info37 : (Try.prog.info? 37).map (fun i => (i.zero, i.size, i.bytes)) = some (some (.agg #[.int .i64 0, .int .i64 0, .int .i64 0]), 3, 24) := by kernel_rfl

def rfCells (every : Nat) (l : Value) (any : Bool) (lo lp : Nat) (lat : Nat) : Array Value := #[.int .i64 every, l, .bool any, .int .i64 lo, .int .i64 lp, .int .i64 0, .int .i64 lat]

structure Rf.repV (B : Nat) (w : World) (b : Nat) (x : Ix) (l : Value) : Prop where
  hb : w.heap[b]? = some (.cells (rfCells x.every l x.any x.lo x.lp x.lat) 39 (0, 0))
  hl : w.ownsRow B 37 3 l x.es.length (entCells x.es)
  hB : B ≤ b
  lb : l.ownBlock ≠ some b
def rfoot (b : Nat) (l : Value) (k : Nat) : Prop := k = b ∨ l.ownBlock = some k
def Rf.rep (B : Nat) (w : World) (b : Nat) (x : Ix) (S : Nat → Prop) : Prop := ∃ l, Rf.repV B w b x l ∧ ∀ k, S k ↔ rfoot b l k
theorem Rf.repV.kept {B : Nat} {w w' : World} {b : Nat} {x : Ix} {l : Value} (h : Rf.repV B w b x l) (hk : ∀ k, rfoot b l k → w'.heap[k]? = w.heap[k]?) : Rf.repV B w' b x l :=
  ⟨(hk b (.inl rfl)).trans h.hb, own_eq h.hl fun k hs => hk k (.inr hs), h.hB, h.lb⟩
theorem Rf.rep.kept {B : Nat} {w w' : World} {b : Nat} {x : Ix} {S : Nat → Prop} (h : Rf.rep B w b x S) (hk : ∀ k, S k → w'.heap[k]? = w.heap[k]?) : Rf.rep B w' b x S := by
  obtain ⟨l, h1, h2⟩ := h
  exact ⟨l, h1.kept fun k hf => hk k ((h2 k).2 hf), h2⟩
theorem Rf.rep.lt {B : Nat} {w : World} {b : Nat} {x : Ix} {S : Nat → Prop} (h : Rf.rep B w b x S) {k : Nat} (hk : S k) : B ≤ k ∧ k < w.heap.size := by
  obtain ⟨l, h1, h2⟩ := h
  rcases (h2 k).1 hk with rfl | h3
  · exact ⟨h1.hB, lt_of_heap h1.hb⟩
  · exact own_lt h1.hl h3
def RfPost (B : Nat) (w : World) (b : Nat) (S0 : Nat → Prop) (x : Ix) (w' : World) : Prop :=
  ∃ S', Rf.rep B w' b x S' ∧ (∀ k, S' k → S0 k ∨ w.heap.size ≤ k) ∧ Fr S0 w w'

theorem ent_get {es : List E} : ∀ {k : Nat} {e : E}, es[k]? = some e → (entCells es)[k * 3]? = some (.int .i64 e.o) ∧ (entCells es)[k * 3 + 1]? = some (.int .i64 e.p) ∧ (entCells es)[k * 3 + 2]? = some (.int .i64 e.t) := by
  induction es with
  | nil => intro k e h; simp at h
  | cons a l ih =>
    intro k e h
    have hc : entCells (a :: l) = [.int .i64 a.o, .int .i64 a.p, .int .i64 a.t] ++ entCells l := by simp [entCells]
    rw [hc]
    cases k with
    | zero => simp at h; subst h; simp
    | succ k =>
      have := ih (show l[k]? = some e by simpa using h)
      refine ⟨?_, ?_, ?_⟩
      · rw [List.getElem?_append_right (by simp; omega)]; rw [show (k + 1) * 3 - [Value.int .i64 a.o, .int .i64 a.p, .int .i64 a.t].length = k * 3 by simp; omega]; exact this.1
      · rw [List.getElem?_append_right (by simp; omega)]; rw [show (k + 1) * 3 + 1 - [Value.int .i64 a.o, .int .i64 a.p, .int .i64 a.t].length = k * 3 + 1 by simp; omega]; exact this.2.1
      · rw [List.getElem?_append_right (by simp; omega)]; rw [show (k + 1) * 3 + 2 - [Value.int .i64 a.o, .int .i64 a.p, .int .i64 a.t].length = k * 3 + 2 by simp; omega]; exact this.2.2

theorem own_cells_any {w : World} {B : Nat} {e : TypeId} {s n : Nat} {a : Option Addr} {cap : Nat} {xs : List Value} (h : w.ownsRow B e s (.slice a n cap) n xs) :
    (a = none ∧ n = 0) ∨ ∃ g, a = some ⟨g, 0, none⟩ ∧ (∀ k u, xs[k]? = some u → w.cell? ⟨g, k, none⟩ = some u) := by
  obtain ⟨a', cap', hv, h1, h2⟩ := own_slice h
  injection hv with hv1 hv2 hv3
  subst hv1
  cases a with
  | none => exact .inl ⟨rfl, (h2 rfl).1⟩
  | some a =>
    obtain ⟨h3, h4⟩ := h1 a rfl
    refine .inr ⟨a.block, by rw [← h3], fun k u hu => ?_⟩
    have := h.cells h4 k u hu
    have hadd : (⟨a.block, 0, none⟩ : Addr).add k = ⟨a.block, k, none⟩ := by
      unfold Addr.add
      split
      · rename_i h0; rw [h0]
      · simp
    rw [hadd] at this
    exact this

set_option maxHeartbeats 400000 in
theorem may_yes (n : Int) (h : may n) (w : World) : Calls Try.prog 25 #[.int .i64 n] w fun e w' => e = .returned (.bool true) ∧ w = w' := by
  obtain ⟨h1, h2⟩ := h
  go_enter Try.func25, Try.ntmps25
  go_wp2
  go_ret
  exact ⟨rfl, rfl⟩
set_option maxHeartbeats 400000 in
theorem may_no (n : Int) (h : ¬ may n) (w : World) : Calls Try.prog 25 #[.int .i64 n] w fun e w' => e = .returned (.bool false) ∧ w = w' := by
  have hc : n < 0 ∨ (0 ≤ n ∧ 1099511627776 < n) := by unfold may at h; omega
  clear h
  rcases hc with h | ⟨h1, h2⟩
  all_goals
    go_enter Try.func25, Try.ntmps25
    go_wp2
    go_ret
    first
      | exact ⟨rfl, rfl⟩
      | exact ⟨by simp; omega, rfl⟩

set_option maxHeartbeats 400000 in
theorem radd_out (b : Addr) (o p t : Int) (w : World) (h : ¬ (may o ∧ may p ∧ may t)) :
    Calls Try.prog 13 #[.pointer (some b), .int .i64 o, .int .i64 p, .int .i64 t] w fun e w' => e = .returned (.int .i64 1) ∧ w = w' := by
  by_cases ho : may o
  · by_cases hp : may p
    · have ht : ¬ may t := fun ht => h ⟨ho, hp, ht⟩
      clear h
      go_enter Try.func13, Try.ntmps13
      go_wp2_with fail
      refine (may_yes _ ho _).mono ?_
      rintro e w' ⟨rfl, rfl⟩
      go_wp2_with fail
      refine (may_yes _ hp _).mono ?_
      rintro e w' ⟨rfl, rfl⟩
      go_wp2_with fail
      refine (may_no _ ht _).mono ?_
      rintro e w' ⟨rfl, rfl⟩
      go_wp2_with fail
      go_ret
      exact ⟨rfl, rfl⟩
    · clear h
      go_enter Try.func13, Try.ntmps13
      go_wp2_with fail
      refine (may_yes _ ho _).mono ?_
      rintro e w' ⟨rfl, rfl⟩
      go_wp2_with fail
      refine (may_no _ hp _).mono ?_
      rintro e w' ⟨rfl, rfl⟩
      go_wp2_with fail
      go_ret
      exact ⟨rfl, rfl⟩
  · clear h
    go_enter Try.func13, Try.ntmps13
    go_wp2_with fail
    refine (may_no _ ho _).mono ?_
    rintro e w' ⟨rfl, rfl⟩
    go_wp2_with fail
    go_ret
    exact ⟨rfl, rfl⟩

set_option maxHeartbeats 400000 in
theorem radd_low (b : Nat) (every : Nat) (l : Value) (lo lp lat : Nat) (o p t : Nat) (w : World) (hb : w.heap[b]? = some (.cells (rfCells every l true lo lp lat) 39 (0, 0)))
    (ho : may o) (hp : may p) (ht : may t) (h : o ≤ lo ∨ p ≤ lp) :
    Calls Try.prog 13 #[.pointer (some ⟨b, 0, none⟩), .int .i64 o, .int .i64 p, .int .i64 t] w fun e w' => e = .returned (.int .i64 1) ∧ w = w' := by
  have c2 : w.cell? ⟨b, 2, none⟩ = some (.bool true) := by simp [World.cell?, hb, rfCells]
  have c3 : w.cell? ⟨b, 3, none⟩ = some (.int .i64 lo) := by simp [World.cell?, hb, rfCells]
  have c4 : w.cell? ⟨b, 4, none⟩ = some (.int .i64 lp) := by simp [World.cell?, hb, rfCells]
  clear hb
  by_cases h1 : o ≤ lo
  · clear h
    go_enter Try.func13, Try.ntmps13
    go_wp2_with fail
    refine (may_yes _ ho _).mono ?_
    rintro e w' ⟨rfl, rfl⟩
    go_wp2_with fail
    refine (may_yes _ hp _).mono ?_
    rintro e w' ⟨rfl, rfl⟩
    go_wp2_with fail
    refine (may_yes _ ht _).mono ?_
    rintro e w' ⟨rfl, rfl⟩
    go_wp2_with fail
    go_ret
    exact ⟨rfl, rfl⟩
  · have h2 : p ≤ lp := h.resolve_left h1
    have h1' : lo < o := by omega
    clear h h1
    go_enter Try.func13, Try.ntmps13
    go_wp2_with fail
    refine (may_yes _ ho _).mono ?_
    rintro e w' ⟨rfl, rfl⟩
    go_wp2_with fail
    refine (may_yes _ hp _).mono ?_
    rintro e w' ⟨rfl, rfl⟩
    go_wp2_with fail
    refine (may_yes _ ht _).mono ?_
    rintro e w' ⟨rfl, rfl⟩
    go_wp2_with fail
    go_ret
    exact ⟨rfl, rfl⟩
end Go.Proofs.Ytfogmmanebflpaa
