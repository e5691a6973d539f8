/- Two objects side by side, each of its own blocks. -/
import Derived.Test.YtfogmmanebflpaaA1
namespace Go.Proofs.Ytfogmmanebflpaa
open Go.RowKit Go.Fm
set_option linter.unusedVariables false

abbrev Rel := World → (Nat → Prop) → Prop

structure Held (R : Rel) (B : Nat) : Prop where
  kept : ∀ {v v' : World} {S : Nat → Prop}, R v S → (∀ k, S k → v'.heap[k]? = v.heap[k]?) → R v' S
  lt : ∀ {v : World} {S : Nat → Prop} {k : Nat}, R v S → S k → B ≤ k ∧ k < v.heap.size

def Two (R1 R2 : Rel) (w v : World) : Prop := ∃ S1 S2, R1 v S1 ∧ R2 v S2 ∧ (∀ k, S1 k → ¬ S2 k) ∧ Fr (fun _ => False) w v

theorem Two.fr {R1 R2 : Rel} {w v : World} (h : Two R1 R2 w v) : Fr (fun _ => False) w v := by
  obtain ⟨_, _, _, _, _, h⟩ := h; exact h
theorem Two.swap {R1 R2 : Rel} {w v : World} (h : Two R1 R2 w v) : Two R2 R1 w v := by
  obtain ⟨S1, S2, h1, h2, h3, h4⟩ := h; exact ⟨S2, S1, h2, h1, fun k a b => h3 k b a, h4⟩
theorem Two.kept {R1 R2 : Rel} {w v v' : World} (k1 : Held R1 w.heap.size) (k2 : Held R2 w.heap.size) (h : Two R1 R2 w v) (hf : Fr (fun _ => False) v v') : Two R1 R2 w v' := by
  obtain ⟨S1, S2, h1, h2, h3, h4⟩ := h
  exact ⟨S1, S2, k1.kept h1 fun k hk => hf.block k (k1.lt h1 hk).2 (fun h => h), k2.kept h2 fun k hk => hf.block k (k2.lt h2 hk).2 (fun h => h), h3, h4.trans hf fun _ h => h.elim⟩
theorem Two.make {R1 R2 : Rel} {w v v' : World} {S1 S2 : Nat → Prop} (k1 : Held R1 w.heap.size) (h1 : R1 v S1) (h : Fr (fun _ => False) w v) (hf : Fr (fun _ => False) v v') (h2 : R2 v' S2) (hs : ∀ k, S2 k → v.heap.size ≤ k) : Two R1 R2 w v' :=
  ⟨S1, S2, k1.kept h1 fun k hk => hf.block k (k1.lt h1 hk).2 (fun h => h), h2, fun k a b => by have := (k1.lt h1 a).2; have := hs k b; omega, h.trans hf fun _ h => h.elim⟩
theorem Two.step {R1 R1' R2 : Rel} {w v v' : World} {S1 S2 : Nat → Prop} (k1 : Held R1 w.heap.size) (k2 : Held R2 w.heap.size) (h1 : R1 v S1) (h2 : R2 v S2) (h3 : ∀ k, S1 k → ¬ S2 k) (h4 : Fr (fun _ => False) w v)
    {S' : Nat → Prop} (h1' : R1' v' S') (hS : ∀ k, S' k → S1 k ∨ v.heap.size ≤ k) (hf : Fr S1 v v') : Two R1' R2 w v' := by
  refine ⟨S', S2, h1', k2.kept h2 fun k hk => hf.block k (k2.lt h2 hk).2 (fun h => h3 k h hk), fun k a b => ?_, h4.trans hf fun i hi => .inr (k1.lt h1 hi).1⟩
  rcases hS k a with h | h
  · exact h3 k h b
  · have := (k2.lt h2 b).2; omega

def IR (B b : Nat) (x : Ix) : Rel := fun v S => Ix.rep B v b x S ∧ x.good
def JR (B b : Nat) (x : Ix) : Rel := fun v S => Rf.rep B v b x S ∧ x.good
theorem IR.held (B b : Nat) (x : Ix) : Held (IR B b x) B := ⟨fun h hk => ⟨h.1.kept hk, h.2⟩, fun h hk => h.1.lt hk⟩
theorem JR.held (B b : Nat) (x : Ix) : Held (JR B b x) B := ⟨fun h hk => ⟨h.1.kept hk, h.2⟩, fun h hk => h.1.lt hk⟩

section
variable {w v : World} {b : Nat} {x : Ix} {R : Rel}
theorem Two.good (h : Two (IR w.heap.size b x) R w v) : x.good := by obtain ⟨_, _, h, _⟩ := h; exact h.2
theorem two_add (hR : Held R w.heap.size) (h : Two (IR w.heap.size b x) R w v) (hn : x.es.length ≤ 900) (o p t : Int) :
    Calls Try.prog 10 #[.pointer (some ⟨b, 0, none⟩), .int .i64 o, .int .i64 p, .int .i64 t] v fun e w' => e = .returned (.int .i64 (x.code o p t)) ∧ Two (IR w.heap.size b (x.add o p t)) R w w' := by
  obtain ⟨S1, S2, h1, h2, h3, h4⟩ := h
  refine (add_any h1.1 h1.2 hn h4.size o p t).mono ?_
  rintro e w' ⟨he, S', hr', hS', hf'⟩
  exact ⟨he, Two.step (IR.held _ _ _) hR h1 h2 h3 h4 ⟨hr', h1.2.add o p t⟩ hS' hf'⟩
theorem two_radd (hR : Held R w.heap.size) (h : Two (JR w.heap.size b x) R w v) (hn : x.es.length ≤ 900) (o p t : Int) :
    Calls Try.prog 13 #[.pointer (some ⟨b, 0, none⟩), .int .i64 o, .int .i64 p, .int .i64 t] v fun e w' => e = .returned (.int .i64 (x.code o p t)) ∧ Two (JR w.heap.size b (x.add o p t)) R w w' := by
  obtain ⟨S1, S2, h1, h2, h3, h4⟩ := h
  refine (radd_any h1.1 h1.2 hn h4.size o p t).mono ?_
  rintro e w' ⟨he, S', hr', hS', hf'⟩
  exact ⟨he, Two.step (JR.held _ _ _) hR h1 h2 h3 h4 ⟨hr', h1.2.add o p t⟩ hS' hf'⟩
theorem two_find (hR : Held R w.heap.size) (h : Two (IR w.heap.size b x) R w v) (hn : x.es.length ≤ 1000) (o : Int) :
    Calls Try.prog 11 #[.pointer (some ⟨b, 0, none⟩), .int .i64 o] v fun e w' => e = .returned (.int .i64 (x.find o)) ∧ Two (IR w.heap.size b x) R w w' := by
  have h0 := h
  obtain ⟨S1, S2, h1, h2, h3, h4⟩ := h
  exact (find_any h1.1 h1.2.took h1.2.rise hn o).mono fun e w' ⟨he, hf'⟩ => ⟨he, h0.kept (IR.held _ _ _) hR hf'⟩
theorem two_seek (hR : Held R w.heap.size) (h : Two (IR w.heap.size b x) R w v) (hn : x.es.length ≤ 1000) (o : Int) :
    Calls Try.prog 12 #[.pointer (some ⟨b, 0, none⟩), .int .i64 o] v fun e w' => e = .returned (.int .i64 (x.seek o)) ∧ Two (IR w.heap.size b x) R w w' := by
  have h0 := h
  obtain ⟨S1, S2, h1, h2, h3, h4⟩ := h
  exact (seek_any h1.1 h1.2.took h1.2.rise hn o).mono fun e w' ⟨he, hf'⟩ => ⟨he, h0.kept (IR.held _ _ _) hR hf'⟩
theorem two_entries (hR : Held R w.heap.size) (h : Two (IR w.heap.size b x) R w v) (hn : x.es.length ≤ 1000) :
    Calls Try.prog 16 #[.pointer (some ⟨b, 0, none⟩)] v fun e w' => ∃ oa cap, e = .returned (.slice oa x.es.length cap) ∧ Two (IR w.heap.size b x) R w w' ∧
      ∀ i y, x.es[i]? = some y → ∃ g, oa = some ⟨g, 0, none⟩ ∧ w'.cell? ⟨g, i * 3, none⟩ = some (.int .i64 y.o) ∧ w'.cell? ⟨g, i * 3 + 1, none⟩ = some (.int .i64 y.p) ∧ w'.cell? ⟨g, i * 3 + 2, none⟩ = some (.int .i64 y.t) := by
  have h0 := h
  obtain ⟨S1, S2, h1, h2, h3, h4⟩ := h
  refine (entries_any h1.1 h1.2.took hn).mono ?_
  rintro e w' ⟨u, he, ho, hf'⟩
  obtain ⟨oa, cap, rfl, -, -⟩ := own_slice ho
  refine ⟨oa, cap, he, h0.kept (IR.held _ _ _) hR hf', fun i y hy => ?_⟩
  rcases own_cells_any ho with ⟨-, hz⟩ | ⟨g, hg, hc⟩
  · have := lt_get hy; omega
  · have := ent_get hy
    exact ⟨g, hg, hc _ _ this.1, hc _ _ this.2.1, hc _ _ this.2.2⟩
end
theorem two_rfind {w v : World} {b : Nat} {x : Ix} {R : Rel} (hR : Held R w.heap.size) (h : Two (JR w.heap.size b x) R w v) (hn : x.es.length ≤ 1000) (o : Int) :
    Calls Try.prog 14 #[.pointer (some ⟨b, 0, none⟩), .int .i64 o] v fun e w' => e = .returned (.int .i64 (x.find o)) ∧ Two (JR w.heap.size b x) R w w' := by
  have h0 := h
  obtain ⟨S1, S2, h1, h2, h3, h4⟩ := h
  exact (rfind_any h1.1 hn o).mono fun e w' ⟨he, hf'⟩ => ⟨he, hf' ▸ h0⟩
theorem two_rseek {w v : World} {b : Nat} {x : Ix} {R : Rel} (hR : Held R w.heap.size) (h : Two (JR w.heap.size b x) R w v) (hn : x.es.length ≤ 1000) (o : Int) :
    Calls Try.prog 15 #[.pointer (some ⟨b, 0, none⟩), .int .i64 o] v fun e w' => e = .returned (.int .i64 (x.seek o)) ∧ Two (JR w.heap.size b x) R w w' := by
  have h0 := h
  obtain ⟨S1, S2, h1, h2, h3, h4⟩ := h
  exact (rseek_any h1.1 hn o).mono fun e w' ⟨he, hf'⟩ => ⟨he, hf' ▸ h0⟩

theorem two_new {w v : World} {b : Nat} {x : Ix} (h : Lv w v b x) (n : Int) (h1 : 1 ≤ n) (h2 : n ≤ 1000000) :
    Calls Try.prog 8 #[.int .i64 n] v fun e w' => e = .returned (.tuple #[.pointer (some ⟨v.heap.size, 0, none⟩), .int .i64 0]) ∧ Two (IR w.heap.size b x) (IR w.heap.size v.heap.size (ixNew n.toNat)) w w' := by
  obtain ⟨S, hr, hf, hg⟩ := h
  exact (new_yes n v h1 h2 w.heap.size hf.size).mono fun e w' ⟨he, hf', _, hr'⟩ =>
    ⟨he, Two.make (IR.held _ _ _) ⟨hr, hg⟩ hf hf' ⟨hr', Ix.good.nil (by omega) (by omega)⟩ fun k hk => by omega⟩
end Go.Proofs.Ytfogmmanebflpaa
