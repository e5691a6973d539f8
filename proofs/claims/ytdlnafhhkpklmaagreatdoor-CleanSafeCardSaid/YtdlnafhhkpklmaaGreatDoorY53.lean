/- The argument of CleanSteps and CleanSafe, opened. -/
import Derived.Test.YtdlnafhhkpklmaaGreatDoorY51
namespace Go.Proofs.YtdlnafhhkpklmaaGreatDoor
open Go.RowKit Go.Fm Go.BigFrame Go.Shelf Go.Maps
set_option linter.unusedVariables false
set_option linter.unusedSimpArgs false
set_option maxRecDepth 100000
section
open Go.ChangeShapes Go.WideShapes Go.ChangeAt Go.Joins Go.Deep
variable {H : Type} {enc : TypeId × Value → H} {W : World} {spare : Nat → Bool} {held : Bool}
theorem c22 : Tryz.prog.cellsOf 22 = 1 := by kernel_rfl
theorem c49 : Tryz.prog.cellsOf 49 = 1 := by kernel_rfl
theorem log12_fields {m : Nat} {cs : List Value} {x : DataW H × List MemPlace} (h : DataW.trod enc Tryz.prog W 0 spare held m 62 cs = some x) (hlen : cs.length = 5) :
  ∃ v0 lm be fu kv bs ks, cs = [v0, .int .i64 lm, .int .i64 be, .int .i64 fu, kv] ∧ BatsR (fun _ => True) W v0 bs ∧ IntsR W kv ks ∧ (Lit.int .i64 fu).wf = true := by
 obtain ⟨xs, n', _, _, hcl, hxl, hf⟩ := DataW.trod_struct Tryz.underlying62 h
 have hx5 : xs.length = 5 := hxl.trans (by kernel_rfl)
 clear hxl
 match cs, hlen, xs, hx5 with
 | [v0, v1, v2, v3, v4], _, [y0, y1, y2, y3, y4], _ =>
  have t0 := hf 0
  have t1 := hf 1
  have t2 := hf 2
  have t3 := hf 3
  have t4 := hf 4
  simp [q3, c22, c49] at t0 t1 t2 t3 t4
  obtain ⟨n1, e1, -, -⟩ := DataW.trod_int Tryz.underlying3 t1
  obtain ⟨n2, e2, -, -⟩ := DataW.trod_int Tryz.underlying3 t2
  obtain ⟨n3, e3, -, w3⟩ := DataW.trod_int Tryz.underlying3 t3
  obtain ⟨bs, hb, -⟩ := bats_of t0
  obtain ⟨ks, hk⟩ := ints_of t4
  simp only [List.cons.injEq, and_true] at e1 e2 e3
  subst e1 e2 e3
  exact ⟨v0, n1, n2, n3, v4, bs, ks, rfl, hb, hk, w3⟩
theorem log12_of {r : Reach} {b0 : Nat} {v : Value} {d : DataW H} {p : List MemPlace} (hv : Value.okWide Tryz.prog W r b0 62 v) (h : DataW.Trod enc Tryz.prog W 0 spare held 62 v d p) :
  ∃ v0 lm be fu kv bs ks, v = logV v0 lm be fu kv ∧ BatsR (fun _ => True) W v0 bs ∧ IntsR W kv ks ∧ (Lit.int .i64 fu).wf = true := by
 obtain ⟨cs, rfl, hsz⟩ := okWide_struct Tryz.underlying62 hv
 obtain ⟨l⟩ := cs
 obtain ⟨fuel, hf⟩ := h
 have hl : l.length = 5 := hsz.trans (by kernel_rfl)
 obtain ⟨v0, lm, be, fu, kv, bs, ks, he, ho⟩ := log12_fields hf hl
 exact ⟨v0, lm, be, fu, kv, bs, ks, by unfold logV; have e : l = _ := he; rw [e], ho⟩
end
end Go.Proofs.YtdlnafhhkpklmaaGreatDoor
