/- OffsetsLast: the walk. -/
import Derived.Test.YtdgdhegbcjimbaaR2
import Derived.Test.YtdgdhegbcjimbaaN1
import Derived.Laws.StructEq
namespace Go.Lcl
open Go
/-- A region whose ways all end alike. -/
theorem region_common {P : Program} {c : Code} {a : Act} {w : World} {Q : Exit → Act → World → Prop} (A : Nat → Act) (F : Nat → World → Prop) (hr : c.wp P (fun e a' w' => e = .normal ∧ ∃ b, a' = A b ∧ F b w') a w)
    (h : ∀ b w', F b w' → Q .normal (A b) w') : c.wp P Q a w :=
  Code.wp_mono (fun e a' w' ⟨h1, b, h2, h3⟩ => by subst h1; subst h2; exact h b w' h3) hr
end Go.Lcl
namespace Go.Proofs.Ytdgdhegbcjimbaa
open Go.RowKit Go.Fm Go.BigFrame
set_option linter.unusedVariables false
set_option linter.unusedSimpArgs false

theorem fields2 {fs : List Field} {a b : Bool × TypeId × Nat} (h : fs.map (fun f => (decide (f.name ≠ "_"), f.type, f.offset)) = [a, b]) : ∃ f g, fs = [f, g] ∧ decide (f.name ≠ "_") = a.1 ∧ f.type = a.2.1 ∧ f.offset = a.2.2 ∧ decide (g.name ≠ "_") = b.1 ∧ g.type = b.2.1 ∧ g.offset = b.2.2 := by
  match fs, h with
  | [f, g], h =>
    simp only [List.map_cons, List.map_nil, List.cons.injEq, and_true] at h
    obtain ⟨h1, h2⟩ := h
    subst h1 h2
    exact ⟨f, g, rfl, rfl, rfl, rfl, rfl, rfl, rfl⟩
theorem agg9 (w : World) : (isAgg 9).run Try.prog w = .ok false w := by kernel_rfl
theorem agg3 (w : World) : (isAgg 3).run Try.prog w = .ok false w := by kernel_rfl
theorem agg29 (w : World) : (isAgg 29).run Try.prog w = .ok true w := by kernel_rfl
theorem siz29 (w : World) : (sizeOf 29).run Try.prog w = .ok 2 w := by kernel_rfl
theorem eq29 (d : Nat) (t t' : ByteArray) (i i' : Int) (w : World) : (Op.equalIn (d + 1 + 1) 29 (.agg #[.string t, .int .i64 i]) (.agg #[.string t', .int .i64 i'])).run Try.prog w = .ok (t.toList == t'.toList && i == i') w := by
  obtain ⟨f, g, hf, f1, f2, f3, g1, g2, g3⟩ := fields2 (fs := (Try.prog.fieldsOf 29).toList) (a := (true, 9, 0)) (b := (true, 3, 1)) (by kernel_rfl)
  dsimp only at f1 f2 f3 g1 g2 g3
  have e1 : ∀ w, (Op.equalIn (d + 1) 9 (.string t) (.string t')).run Try.prog w = .ok (t.toList == t'.toList) w := fun w => run_equalIn_string w d 9 t t' Try.underlying9
  have e2 : ∀ w, (Op.equalIn (d + 1) 3 (.int .i64 i) (.int .i64 i')).run Try.prog w = .ok (i == i') w := fun w => run_equalIn_int w d 3 .i64 .i64 i i' Try.underlying3
  rw [run_equalIn_struct (d := d + 1) (ht := Try.underlying29.trans (by kernel_rfl)) (hp := by kernel_rfl), hf]
  simp only [decide_eq_true_eq] at f1 g1
  cases h1 : (t.toList == t'.toList) <;> cases h2 : (i == i') <;> simp [Op.eqFields, f1, f2, f3, g1, g2, g3, part, agg9, agg3, e1, e2, h1, h2, Sem.run_bind, Result.andThen]
theorem eq36 (d : Nat) (g' g t t' : ByteArray) (i i' : Int) (w : World) : (Op.equalIn (d + 1 + 1 + 1) 36 (.agg #[.string g, .string t, .int .i64 i]) (.agg #[.string g', .string t', .int .i64 i'])).run Try.prog w = .ok (g.toList == g'.toList && (t.toList == t'.toList && i == i')) w := by
  obtain ⟨f, k, hf, f1, f2, f3, g1, g2, g3⟩ := fields2 (fs := (Try.prog.fieldsOf 36).toList) (a := (true, 9, 0)) (b := (true, 29, 1)) (by kernel_rfl)
  dsimp only at f1 f2 f3 g1 g2 g3
  have e1 : ∀ w, (Op.equalIn (d + 1 + 1) 9 (.string g) (.string g')).run Try.prog w = .ok (g.toList == g'.toList) w := fun w => run_equalIn_string w (d + 1) 9 g g' Try.underlying9
  have e2 := fun w => eq29 d t t' i i' w
  rw [run_equalIn_struct (d := d + 1 + 1) (ht := Try.underlying36.trans (by kernel_rfl)) (hp := by kernel_rfl), hf]
  simp only [decide_eq_true_eq] at f1 g1
  cases h1 : (g.toList == g'.toList) <;> cases h2 : (t.toList == t'.toList && i == i') <;> simp [Op.eqFields, f1, f2, f3, g1, g2, g3, part, agg9, agg29, siz29, e1, e2, h1, h2, Sem.run_bind, Result.andThen]
theorem neq36 (x : Key) (w : World) : (binOp .neq 36 (.agg #[.string x.g, .string x.t, .int .i64 x.i]) (.agg #[.string x.g, .string x.t, .int .i64 x.i])).run Try.prog w = .ok (.bool false) w := by
  rw [run_neq_struct, eq36 9997]
  simp
theorem neq29 (t t' : ByteArray) (i i' : Int) (w : World) : (binOp .neq 29 (.agg #[.string t, .int .i64 i]) (.agg #[.string t', .int .i64 i'])).run Try.prog w = .ok (.bool (!(t.toList == t'.toList && i == i'))) w := by
  rw [run_neq_struct, eq29 9998]
  simp
theorem eql29 (t t' : ByteArray) (i i' : Int) (w : World) : (binOp .eql 29 (.agg #[.string t, .int .i64 i]) (.agg #[.string t', .int .i64 i'])).run Try.prog w = .ok (.bool (t.toList == t'.toList && i == i')) w := by
  rw [run_eql_struct, eq29 9998]
  simp
theorem rising_eq {s s' : List Key} (h : Rising s) (h' : Rising s') (hp : s.Perm s') : s = s' :=
  List.Perm.eq_of_pairwise (le := ltK) (fun a b _ _ h1 h2 => absurd (ltK_trans h1 h2) (ltK_irrefl a)) h h' hp
/-- What Commit and Entry answer where the offset is none of the one that forgets. -/
theorem commit_entry {L : List Row} {k : Key} {a : Int} {n : Nat} (hn : n < 60) (hl : L.length ≤ n) (ha : a ≠ -1) :
    (entB k a n = true ∧ commitE 100 L k a = 0 ∧ commitL 100 L k a = putR L k a) ∨ (entB k a n = false ∧ commitE 100 L k a = 1 ∧ commitL 100 L k a = L) := by
  have e1 : withinB n 0 = true := by simp [withinB]; omega
  have e2 : withinB a (-1) = withinB a 0 := by unfold withinB; rw [show decide (-1 ≤ a) = decide (0 ≤ a) by rw [decide_eq_decide]; omega]
  unfold entB
  rw [e1, e2, Bool.and_true]
  by_cases h : mayB k = true ∧ withinB a 0 = true
  · have he : commitE 100 L k a = 0 := by unfold commitE; rw [if_pos h, if_pos (.inr (by omega))]
    exact .inl ⟨by rw [h.1, h.2]; rfl, he, by unfold commitL; rw [if_pos he]⟩
  · have he : commitE 100 L k a = 1 := by unfold commitE; rw [if_neg h]
    refine .inr ⟨?_, he, by unfold commitL; rw [if_neg (by rw [he]; decide)]⟩
    rw [Bool.eq_false_iff]
    intro hh
    exact h (by simpa using hh)
theorem commit_len {L : List Row} {k : Key} {a room : Int} (hn : (L.map (·.1)).Nodup) : (commitL room L k a).length ≤ L.length + 1 := by
  unfold commitL
  split
  · rw [len_put hn]; split <;> omega
  · omega
theorem commit_out {room : Int} {L : List Row} {k : Key} : commitE room L k (-1) = 1 ∧ commitL room L k (-1) = L := by
  have he : commitE room L k (-1) = 1 := by unfold commitE; rw [if_neg (by rintro ⟨-, h⟩; simp [withinB] at h)]
  exact ⟨he, by unfold commitL; rw [if_neg (by rw [he]; decide)]⟩
end Go.Proofs.Ytdgdhegbcjimbaa
