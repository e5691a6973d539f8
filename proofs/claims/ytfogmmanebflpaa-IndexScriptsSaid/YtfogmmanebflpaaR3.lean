/- The reference's Find and Seek. -/
import Derived.Test.YtfogmmanebflpaaR1
namespace Go.Proofs.Ytfogmmanebflpaa
open Go.RowKit Go.Fm Go.BigFrame
set_option linter.unusedSimpArgs false
set_option linter.unusedVariables false

theorem lastOf_snoc (p : E → Bool) (a : Nat) (l : List E) (e : E) : lastOf p a (l ++ [e]) = if p e then e.p else lastOf p a l := by
  simp [lastOf, List.foldl_append]

set_option maxHeartbeats 1000000 in
theorem rfind_walk (b n lc : Nat) (la : Option Addr) (es : List E) (o : Int) (w : World) (hn : n = es.length) (hn1 : n ≤ 1000)
    (c1 : w.cell? ⟨b, 1, none⟩ = some (.slice la n lc))
    (hs : ∀ k e, es[k]? = some e → ∃ g, la = some ⟨g, 0, none⟩ ∧ w.cell? ⟨g, k * 3, none⟩ = some (.int .i64 e.o) ∧ w.cell? ⟨g, k * 3 + 1, none⟩ = some (.int .i64 e.p)) :
    Calls Try.prog 14 #[.pointer (some ⟨b, 0, none⟩), .int .i64 o] w fun e w' => e = .returned (.int .i64 (lastOf (fun e => decide ((e.o : Int) ≤ o)) 0 es)) ∧ w = w' := by
  have HS := Lib.hid hs
  have HN := Lib.hid hn
  clear hs hn
  go_enter Try.func14, Try.ntmps14
  go_wp2_with fail
  go_loop [5, 6] (fun v i => ∃ k : Nat, k ≤ n ∧ i = .int .i64 k ∧ v = .int .i64 (lastOf (fun e => decide ((e.o : Int) ≤ o)) 0 (es.take k))) (fun _ i => n - (intOf i).toNat)
  case atStart => exact ⟨0, Nat.zero_le _, rfl, rfl⟩
  case round =>
    obtain ⟨k, hk, rfl, rfl⟩ := hrel
    by_cases hlt : k < n
    · obtain ⟨e, he⟩ := get_lt (show k < es.length by rw [← HN.out]; exact hlt)
      obtain ⟨g, rfl, hg, hg2⟩ := HS.out k e he
      have hsn := lastOf_snoc (fun e => decide ((e.o : Int) ≤ o)) 0 (es.take k) e
      rw [← take_next he] at hsn
      have HSN := Lib.hid hsn
      clear he hsn
      have hi1 : ((k : Int)).toNat = k := by omega
      have hi2 : (0 : Int) ≤ (k : Int) := by omega
      have hi3 : (k : Int) < (n : Int) := by omega
      by_cases ht : (e.o : Int) ≤ o
      · go_wp2_with fail
        go_round
        case rel => exact ⟨k + 1, by omega, by go_num, by rw [HSN.out, if_pos (by simpa using ht)]⟩
        case measure => simp [intOf]; omega
      · go_wp2_with fail
        go_round
        case rel => exact ⟨k + 1, by omega, by go_num, by rw [HSN.out, if_neg (by simpa using ht)]⟩
        case measure => simp [intOf]; omega
    · obtain rfl : k = n := by omega
      have e9 : es.take k = es := List.take_of_length_le (by rw [HN.out]; exact Nat.le_refl _)
      rw [e9]
      clear e9
      go_wp2_with fail
      go_ret
      exact ⟨rfl, rfl⟩

set_option maxHeartbeats 1000000 in
theorem rseek_walk (b n lc : Nat) (la : Option Addr) (es : List E) (t : Int) (w : World) (hn : n = es.length) (hn1 : n ≤ 1000)
    (c1 : w.cell? ⟨b, 1, none⟩ = some (.slice la n lc))
    (hs : ∀ k e, es[k]? = some e → ∃ g, la = some ⟨g, 0, none⟩ ∧ w.cell? ⟨g, k * 3 + 2, none⟩ = some (.int .i64 e.t) ∧ w.cell? ⟨g, k * 3 + 1, none⟩ = some (.int .i64 e.p)) :
    Calls Try.prog 15 #[.pointer (some ⟨b, 0, none⟩), .int .i64 t] w fun e w' => e = .returned (.int .i64 (lastOf (fun e => decide ((e.t : Int) < t)) 0 es)) ∧ w = w' := by
  have HS := Lib.hid hs
  have HN := Lib.hid hn
  clear hs hn
  go_enter Try.func15, Try.ntmps15
  go_wp2_with fail
  go_loop [5, 6] (fun v i => ∃ k : Nat, k ≤ n ∧ i = .int .i64 k ∧ v = .int .i64 (lastOf (fun e => decide ((e.t : Int) < t)) 0 (es.take k))) (fun _ i => n - (intOf i).toNat)
  case atStart => exact ⟨0, Nat.zero_le _, rfl, rfl⟩
  case round =>
    obtain ⟨k, hk, rfl, rfl⟩ := hrel
    by_cases hlt : k < n
    · obtain ⟨e, he⟩ := get_lt (show k < es.length by rw [← HN.out]; exact hlt)
      obtain ⟨g, rfl, hg, hg2⟩ := HS.out k e he
      have hsn := lastOf_snoc (fun e => decide ((e.t : Int) < t)) 0 (es.take k) e
      rw [← take_next he] at hsn
      have HSN := Lib.hid hsn
      clear he hsn
      have hi1 : ((k : Int)).toNat = k := by omega
      have hi2 : (0 : Int) ≤ (k : Int) := by omega
      have hi3 : (k : Int) < (n : Int) := by omega
      by_cases ht : (e.t : Int) < t
      · go_wp2_with fail
        go_round
        case rel => exact ⟨k + 1, by omega, by go_num, by rw [HSN.out, if_pos (by simpa using ht)]⟩
        case measure => simp [intOf]; omega
      · go_wp2_with fail
        go_round
        case rel => exact ⟨k + 1, by omega, by go_num, by rw [HSN.out, if_neg (by simpa using ht)]⟩
        case measure => simp [intOf]; omega
    · obtain rfl : k = n := by omega
      have e9 : es.take k = es := List.take_of_length_le (by rw [HN.out]; exact Nat.le_refl _)
      rw [e9]
      clear e9
      go_wp2_with fail
      go_ret
      exact ⟨rfl, rfl⟩

theorem rf_slice {B : Nat} {w : World} {b : Nat} {x : Ix} {S : Nat → Prop} (h : Rf.rep B w b x S) : ∃ la lc, Rf.repV B w b x (.slice la x.es.length lc) ∧ ∀ k, S k ↔ rfoot b (.slice la x.es.length lc) k := by
  obtain ⟨l, h1, h2⟩ := h
  obtain ⟨la, lc, rfl, -, -⟩ := own_slice h1.hl
  exact ⟨la, lc, h1, h2⟩

theorem rf_cells {B : Nat} {w : World} {b : Nat} {x : Ix} {la : Option Addr} {lc : Nat} (h : Rf.repV B w b x (.slice la x.es.length lc)) (k : Nat) (e : E) (he : x.es[k]? = some e) :
    ∃ g, la = some ⟨g, 0, none⟩ ∧ w.cell? ⟨g, k * 3, none⟩ = some (.int .i64 e.o) ∧ w.cell? ⟨g, k * 3 + 1, none⟩ = some (.int .i64 e.p) ∧ w.cell? ⟨g, k * 3 + 2, none⟩ = some (.int .i64 e.t) := by
  have hl := lt_get he
  rcases own_cells_any h.hl with ⟨_, h0⟩ | ⟨g, hg, hc⟩
  · omega
  · obtain ⟨e1, e2, e3⟩ := ent_get he
    exact ⟨g, hg, hc _ _ e1, hc _ _ e2, hc _ _ e3⟩

theorem rfind_any {B : Nat} {w : World} {b : Nat} {x : Ix} {S : Nat → Prop} (h : Rf.rep B w b x S) (hn : x.es.length ≤ 1000) (o : Int) :
    Calls Try.prog 14 #[.pointer (some ⟨b, 0, none⟩), .int .i64 o] w fun e w' => e = .returned (.int .i64 (x.find o)) ∧ w = w' := by
  obtain ⟨la, lc, h1, -⟩ := rf_slice h
  have c1 : w.cell? ⟨b, 1, none⟩ = some (.slice la x.es.length lc) := by simp [World.cell?, h1.hb, rfCells]
  exact rfind_walk b _ lc la x.es o w rfl hn c1 fun k e he => let ⟨g, a, b, c, _⟩ := rf_cells h1 k e he; ⟨g, a, b, c⟩

theorem rseek_any {B : Nat} {w : World} {b : Nat} {x : Ix} {S : Nat → Prop} (h : Rf.rep B w b x S) (hn : x.es.length ≤ 1000) (t : Int) :
    Calls Try.prog 15 #[.pointer (some ⟨b, 0, none⟩), .int .i64 t] w fun e w' => e = .returned (.int .i64 (x.seek t)) ∧ w = w' := by
  obtain ⟨la, lc, h1, -⟩ := rf_slice h
  have c1 : w.cell? ⟨b, 1, none⟩ = some (.slice la x.es.length lc) := by simp [World.cell?, h1.hb, rfCells]
  exact rseek_walk b _ lc la x.es t w rfl hn c1 fun k e he => let ⟨g, a, b, c, d⟩ := rf_cells h1 k e he; ⟨g, a, d, c⟩
end Go.Proofs.Ytfogmmanebflpaa
