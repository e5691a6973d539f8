/- live: the document's example answers. -/
import Derived.Test.YtfogmmanebflpaaR4
namespace Go.Proofs.Ytfogmmanebflpaa
open Go.RowKit Go.Fm Go.BigFrame
set_option linter.unusedVariables false
set_option linter.unusedSimpArgs false

/-- An index of the call's own: nothing that was there in w has changed in v. -/
def Lv (w v : World) (b : Nat) (x : Ix) : Prop := ∃ S, Ix.rep w.heap.size v b x S ∧ Fr (fun _ => False) w v ∧ x.good

theorem Lv.fr {w v : World} {b : Nat} {x : Ix} (h : Lv w v b x) : Fr (fun _ => False) w v := h.elim fun _ h => h.2.1
theorem Lv.good {w v : World} {b : Nat} {x : Ix} (h : Lv w v b x) : x.good := h.elim fun _ h => h.2.2

theorem lv_new (n : Int) (w : World) (h1 : 1 ≤ n) (h2 : n ≤ 1000000) :
    Calls Try.prog 8 #[.int .i64 n] w fun e w' => e = .returned (.tuple #[.pointer (some ⟨w.heap.size, 0, none⟩), .int .i64 0]) ∧ Lv w w' w.heap.size (ixNew n.toNat) :=
  (new_yes n w h1 h2 w.heap.size (Nat.le_refl _)).mono fun e w' ⟨he, hf, _, hr⟩ => ⟨he, _, hr, hf, Ix.good.nil (by omega) (by omega)⟩

theorem lv_add {w v : World} {b : Nat} {x : Ix} (h : Lv w v b x) (hn : x.es.length ≤ 900) (o p t : Int) :
    Calls Try.prog 10 #[.pointer (some ⟨b, 0, none⟩), .int .i64 o, .int .i64 p, .int .i64 t] v fun e w' => e = .returned (.int .i64 (x.code o p t)) ∧ Lv w w' b (x.add o p t) := by
  obtain ⟨S, hr, hf, hg⟩ := h
  refine (add_any hr hg hn hf.size o p t).mono ?_
  rintro e w' ⟨he, S', hr', hS', hf'⟩
  exact ⟨he, S', hr', hf.trans hf' fun i hi => .inr (hr.lt hi).1, hg.add o p t⟩

theorem lv_kept {w v v' : World} {b : Nat} {x : Ix} (h : Lv w v b x) (hf : Fr (fun _ => False) v v') : Lv w v' b x := by
  obtain ⟨S, hr, hf', hg⟩ := h
  exact ⟨S, hr.kept fun k hk => hf.block k (hr.lt hk).2 (fun h => h), hf'.trans hf fun i hi => hi.elim, hg⟩

theorem lv_find {w v : World} {b : Nat} {x : Ix} (h : Lv w v b x) (hn : x.es.length ≤ 1000) (o : Int) :
    Calls Try.prog 11 #[.pointer (some ⟨b, 0, none⟩), .int .i64 o] v fun e w' => e = .returned (.int .i64 (x.find o)) ∧ Lv w w' b x := by
  have h0 := h
  obtain ⟨S, hr, hf, hg⟩ := h
  exact (find_any hr hg.took hg.rise hn o).mono fun e w' ⟨he, hf'⟩ => ⟨he, lv_kept h0 hf'⟩

theorem lv_seek {w v : World} {b : Nat} {x : Ix} (h : Lv w v b x) (hn : x.es.length ≤ 1000) (t : Int) :
    Calls Try.prog 12 #[.pointer (some ⟨b, 0, none⟩), .int .i64 t] v fun e w' => e = .returned (.int .i64 (x.seek t)) ∧ Lv w w' b x := by
  have h0 := h
  obtain ⟨S, hr, hf, hg⟩ := h
  exact (seek_any hr hg.took hg.rise hn t).mono fun e w' ⟨he, hf'⟩ => ⟨he, lv_kept h0 hf'⟩

def x1 : Ix := (ixNew 10).add 0 0 5
def x2 : Ix := x1.add 1 4 9
def x3 : Ix := x2.add 2 12 7
def x4 : Ix := x3.add 2 13 7
theorem x1_code : (ixNew 10).code 0 0 5 = 0 := by decide
theorem x2_code : x1.code 1 4 9 = 0 := by decide
theorem x3_code : x2.code 2 12 7 = 0 := by decide
theorem x4_code : x3.code 2 13 7 = 1 := by decide
theorem x4_find1 : x4.find 1 = 0 := by decide
theorem x4_find2 : x4.find 2 = 12 := by decide
theorem x4_seek9 : x4.seek 9 = 0 := by decide
theorem x4_seek10 : x4.seek 10 = 12 := by decide
theorem x_len : (ixNew 10).es.length ≤ 900 ∧ x1.es.length ≤ 900 ∧ x2.es.length ≤ 900 ∧ x3.es.length ≤ 900 ∧ x4.es.length ≤ 900 := by decide

set_option maxHeartbeats 1000000 in
theorem live_walk (w : World) : Calls Try.prog 9 #[] w fun e w' => e = .returned (.bool true) ∧ Fr (fun _ => False) w w' := by
  obtain ⟨l0, l1, l2, l3, l4⟩ := x_len
  obtain ⟨b, hb⟩ : ∃ b, b = w.heap.size := ⟨_, rfl⟩
  have c0 : Calls Try.prog 8 #[.int .i64 10] w fun e w' => e = .returned (.tuple #[.pointer (some ⟨b, 0, none⟩), .int .i64 0]) ∧ Lv w w' b (ixNew 10) := by rw [hb]; exact lv_new 10 w (by omega) (by omega)
  have C0 := Lib.hid c0
  clear c0 hb
  have a1 : ∀ v, Lv w v b (ixNew 10) → Calls Try.prog 10 #[.pointer (some ⟨b, 0, none⟩), .int .i64 0, .int .i64 0, .int .i64 5] v fun e w' => e = .returned (.int .i64 0) ∧ Lv w w' b x1 := fun v h => by have := lv_add h l0 0 0 5; rw [x1_code] at this; exact this
  have a2 : ∀ v, Lv w v b x1 → Calls Try.prog 10 #[.pointer (some ⟨b, 0, none⟩), .int .i64 1, .int .i64 4, .int .i64 9] v fun e w' => e = .returned (.int .i64 0) ∧ Lv w w' b x2 := fun v h => by have := lv_add h l1 1 4 9; rw [x2_code] at this; exact this
  have a3 : ∀ v, Lv w v b x2 → Calls Try.prog 10 #[.pointer (some ⟨b, 0, none⟩), .int .i64 2, .int .i64 12, .int .i64 7] v fun e w' => e = .returned (.int .i64 0) ∧ Lv w w' b x3 := fun v h => by have := lv_add h l2 2 12 7; rw [x3_code] at this; exact this
  have a4 : ∀ v, Lv w v b x3 → Calls Try.prog 10 #[.pointer (some ⟨b, 0, none⟩), .int .i64 2, .int .i64 13, .int .i64 7] v fun e w' => e = .returned (.int .i64 1) ∧ Lv w w' b x4 := fun v h => by have := lv_add h l3 2 13 7; rw [x4_code] at this; exact this
  have f1 : ∀ v, Lv w v b x4 → Calls Try.prog 11 #[.pointer (some ⟨b, 0, none⟩), .int .i64 1] v fun e w' => e = .returned (.int .i64 0) ∧ Lv w w' b x4 := fun v h => by have := lv_find h (by omega) 1; rw [x4_find1] at this; exact this
  have f2 : ∀ v, Lv w v b x4 → Calls Try.prog 11 #[.pointer (some ⟨b, 0, none⟩), .int .i64 2] v fun e w' => e = .returned (.int .i64 12) ∧ Lv w w' b x4 := fun v h => by have := lv_find h (by omega) 2; rw [x4_find2] at this; exact this
  have s1 : ∀ v, Lv w v b x4 → Calls Try.prog 12 #[.pointer (some ⟨b, 0, none⟩), .int .i64 9] v fun e w' => e = .returned (.int .i64 0) ∧ Lv w w' b x4 := fun v h => by have := lv_seek h (by omega) 9; rw [x4_seek9] at this; exact this
  have s2 : ∀ v, Lv w v b x4 → Calls Try.prog 12 #[.pointer (some ⟨b, 0, none⟩), .int .i64 10] v fun e w' => e = .returned (.int .i64 12) ∧ Lv w w' b x4 := fun v h => by have := lv_seek h (by omega) 10; rw [x4_seek10] at this; exact this
  have A1 := Lib.hid a1
  have A2 := Lib.hid a2
  have A3 := Lib.hid a3
  have A4 := Lib.hid a4
  have F1 := Lib.hid f1
  have F2 := Lib.hid f2
  have S1 := Lib.hid s1
  have S2 := Lib.hid s2
  clear a1 a2 a3 a4 f1 f2 s1 s2 l0 l1 l2 l3 l4
  go_enter Try.func9, Try.ntmps9
  go_wp2_with fail
  refine C0.out.mono ?_
  rintro e w1 ⟨rfl, h1⟩
  go_wp2_with fail
  refine (new_no 0 _ (by omega)).mono ?_
  rintro e w2 ⟨rfl, rfl⟩
  go_wp2_with fail
  refine (A1.out _ h1).mono ?_
  rintro e w2 ⟨rfl, h2⟩
  go_wp2_with fail
  refine (A2.out _ h2).mono ?_
  rintro e w3 ⟨rfl, h3⟩
  go_wp2_with fail
  refine (A3.out _ h3).mono ?_
  rintro e w4 ⟨rfl, h4⟩
  go_wp2_with fail
  refine (A4.out _ h4).mono ?_
  rintro e w5 ⟨rfl, h5⟩
  go_wp2_with fail
  refine (F1.out _ h5).mono ?_
  rintro e w6 ⟨rfl, h6⟩
  go_wp2_with fail
  refine (F2.out _ h6).mono ?_
  rintro e w7 ⟨rfl, h7⟩
  go_wp2_with fail
  refine (S1.out _ h7).mono ?_
  rintro e w8 ⟨rfl, h8⟩
  go_wp2_with fail
  refine (S2.out _ h8).mono ?_
  rintro e w9 ⟨rfl, h9⟩
  go_wp2_with fail
  go_ret
  exact ⟨rfl, h9.fr⟩

set_option maxHeartbeats 1000000 in
theorem nil_walk (o p t : Int) (w : World) : Calls Try.prog 5 #[.agg #[.int .i64 o, .int .i64 p, .int .i64 t]] w fun e w' => e = .returned (.bool true) ∧ Fr (fun _ => False) w w' := by
  go_enter Try.func5, Try.ntmps5
  go_wp2_with fail
  refine (new_no 0 _ (by omega)).mono ?_
  rintro e w2 ⟨rfl, rfl⟩
  go_wp2_with fail
  refine (add_nil o p t _).mono ?_
  rintro e w2 ⟨rfl, rfl⟩
  go_wp2_with fail
  refine (find_nil o _).mono ?_
  rintro e w2 ⟨rfl, hf⟩
  have c0 := hf.cell (p := ⟨w.heap.size, 2, none⟩) (v := .int .i64 t) (by rw [cell_alloc_new]; rfl) (fun h => h)
  go_wp2_with fail
  refine (seek_nil t _).mono ?_
  rintro e w3 ⟨rfl, rfl⟩
  go_wp2_with fail
  refine (entries_nil _).mono ?_
  rintro e w3 ⟨rfl, rfl⟩
  go_wp2_with fail
  refine (live_walk _).mono ?_
  rintro e w3 ⟨rfl, hl⟩
  go_wp2_with fail
  go_ret
  exact ⟨rfl, (((Fr.refl (fun _ => False) w).alloc _).trans hf fun _ h => h.elim).trans hl fun _ h => h.elim⟩
end Go.Proofs.Ytfogmmanebflpaa
