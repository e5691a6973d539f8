/- A producer that sends each batch twice: the laws of one partition. -/
import Derived.Test.YtfdhofabgdkkkaaGreatDoorU41
import Derived.Test.YtfdhofabgdkkkaaGreatDoorU51
namespace Go.Proofs.YtfdhofabgdkkkaaGreatDoor
open Go.RowKit Go.Fm Go.BigFrame Go.Shelf Go.Maps
set_option linter.unusedVariables false
set_option linter.unusedSimpArgs false
set_option maxRecDepth 100000
section
variable {w w' : World} {S : Nat → Prop}
end
end Go.Proofs.YtfdhofabgdkkkaaGreatDoor
/- A producer that sends each batch twice: the walk of StateAgain. -/
namespace Go.Proofs.YtfdhofabgdkkkaaGreatDoor
open Go.RowKit Go.Fm Go.BigFrame Go.Shelf Go.Maps
set_option linter.unusedVariables false
set_option linter.unusedSimpArgs false
set_option maxRecDepth 100000
section
variable {w w' : World} {S : Nat → Prop}
end
end Go.Proofs.YtfdhofabgdkkkaaGreatDoor
/- The argument opened: what is asked, and when. -/
namespace Go.Proofs.YtfdhofabgdkkkaaGreatDoor
open Go.RowKit Go.Fm Go.BigFrame Go.Shelf Go.Maps
set_option linter.unusedVariables false
set_option linter.unusedSimpArgs false
set_option maxRecDepth 100000
section
variable {H : Type} {enc : TypeId × Value → H} {W : World} {spare : Nat → Bool} {held : Bool}
theorem q50e : Tryz.prog.cellsOf 50 = 20 := by kernel_rfl
theorem q39e : Tryz.prog.cellsOf 39 = 1 := by kernel_rfl
theorem optT_top (b : Bat) : (optT b).size ≤ 60008 := by
 unfold optT
 split
 ·decide
 ·split
  ·rename_i hb; exact batS_top hb
  ·decide
theorem name_le {z : DataW H × List MemPlace} {s : ByteArray} (hz : z = (.lit (.string s.data.toList), [])) (hw : ∀ n ∈ z.1.weights Tryz.prog 9, n ≤ reachBytes) : s.size ≤ 150000000000000 := by
 have h2 := hw s.data.toList.length (by rw [hz]; simp [DataW.weights])
 have h3 : s.data.toList.length = s.size := by rw [Array.length_toList]; rfl
 rw [h3] at h2
 unfold reachBytes at h2
 omega
theorem req_fields {m : Nat} {cs : List Value} {x : DataW H × List MemPlace} (h : DataW.trod enc Tryz.prog W 0 spare held m 50 cs = some x) (hlen : cs.length = 20) (hw : ∀ n ∈ x.1.weights Tryz.prog 50, n ≤ reachBytes) :
  ∃ q ks tl rv kv tv, cs.toArray = reqC q rv kv tv ∧ ReqR W q ks tl rv kv tv := by
 obtain ⟨xs, n', _, hx, hcl, hxl, hf⟩ := DataW.trod_struct Tryz.underlying50 h
 have hx12 : xs.length = 12 := hxl.trans (by kernel_rfl)
 clear hxl
 match cs, hlen, xs, hx12 with
 | [v0, v1, v2, v3, v4, v5, v6, v7, v8, v9, v10, v11, v12, v13, v14, v15, v16, v17, v18, v19], _, [z0, z1, z2, z3, z4, z5, z6, z7, z8, z9, z10, z11], _ =>
  have t0 := hf 0
  have t1 := hf 1
  have t2 := hf 2
  have t3 := hf 3
  have t4 := hf 4
  have t5 := hf 5
  have t6 := hf 6
  have t7 := hf 7
  have t8 := hf 8
  have t9 := hf 9
  have t10 := hf 10
  have t11 := hf 11
  simp [q3, q4, q9, q24, q38e, q39e] at t0 t1 t2 t3 t4 t5 t6 t7 t8 t9 t10 t11
  subst hx
  have w1 : ∀ n ∈ z1.1.weights Tryz.prog 9, n ≤ reachBytes := fun n hn => hw n (by
   simp only [DataW.weights, Tryz.underlying50]
   exact DataW.weights_mem_each (j := 1) rfl rfl n hn)
  have w8 : ∀ n ∈ z8.1.weights Tryz.prog 9, n ≤ reachBytes := fun n hn => hw n (by
   simp only [DataW.weights, Tryz.underlying50]
   exact DataW.weights_mem_each (j := 8) rfl rfl n hn)
  have w11 : ∀ n ∈ z11.1.weights Tryz.prog 39, n ≤ reachBytes := fun n hn => hw n (by
   simp only [DataW.weights, Tryz.underlying50]
   exact DataW.weights_mem_each (j := 11) rfl rfl n hn)
  obtain ⟨a0, e0, -, f0⟩ := DataW.trod_int Tryz.underlying3 t0
  obtain ⟨a1, e1, g1, -⟩ := DataW.trod_string Tryz.underlying9 t1
  obtain ⟨a2, e2, -, f2⟩ := DataW.trod_int Tryz.underlying3 t2
  obtain ⟨a3, e3, -, f3⟩ := DataW.trod_int Tryz.underlying3 t3
  obtain ⟨a4, e4, -, f4⟩ := DataW.trod_int Tryz.underlying3 t4
  obtain ⟨a5, e5, -⟩ := DataW.trod_bool Tryz.underlying4 t5
  obtain ⟨a8, e8, g8, -⟩ := DataW.trod_string Tryz.underlying9 t8
  obtain ⟨a9, e9, -, f9⟩ := DataW.trod_int Tryz.underlying3 t9
  obtain ⟨a10, e10, -, f10⟩ := DataW.trod_int Tryz.underlying3 t10
  obtain ⟨tl, htl⟩ := strs_of t11 w11
  obtain ⟨bs, n9, _, _, hcl9, hxl9, hf9⟩ := DataW.trod_struct Tryz.underlying35 t6
  have hz6 : bs.length = 6 := hxl9.trans (by kernel_rfl)
  clear hxl9
  obtain ⟨xs7, n7, _, _, hcl7, hxl7, hf7⟩ := DataW.trod_struct Tryz.underlying38 t7
  have hz7 : xs7.length = 4 := hxl7.trans (by kernel_rfl)
  clear hxl7
  match bs, hz6, xs7, hz7 with
  | [b0, b1, b2, b3, b4, b5], _, [x0, x1, x2, x3], _ =>
   have u0 := hf9 0
   have u1 := hf9 1
   have u2 := hf9 2
   have u3 := hf9 3
   have u4 := hf9 4
   have u5 := hf9 5
   simp [q3, q22] at u0 u1 u2 u3 u4 u5
   have s0 := hf7 0
   have s1 := hf7 1
   have s2 := hf7 2
   have s3 := hf7 3
   simp [q3, q9, q36e] at s0 s1 s2 s3
   obtain ⟨c0, i0, -, -⟩ := DataW.trod_int Tryz.underlying3 u0
   obtain ⟨c1, i1, -, -⟩ := DataW.trod_int Tryz.underlying3 u1
   obtain ⟨c2, i2, -, -⟩ := DataW.trod_int Tryz.underlying3 u2
   obtain ⟨c3, i3, -, -⟩ := DataW.trod_int Tryz.underlying3 u3
   obtain ⟨c4, i4, -, -⟩ := DataW.trod_int Tryz.underlying3 u4
   obtain ⟨rs, hr⟩ := recs_of u5
   obtain ⟨d0, j0, -, -⟩ := DataW.trod_int Tryz.underlying3 s0
   obtain ⟨d1, j1, -, -⟩ := DataW.trod_string Tryz.underlying9 s1
   obtain ⟨d2, j2, -, -⟩ := DataW.trod_string Tryz.underlying9 s2
   obtain ⟨ks, hks⟩ := kids_of _ s3
   simp only [List.cons.injEq, and_true] at e0 e1 e2 e3 e4 e5 e8 e9 e10 i0 i1 i2 i3 i4 j0 j1 j2
   subst e0 e1 e2 e3 e4 e5 e8 e9 e10 i0 i1 i2 i3 i4 j0 j1 j2
   have h1 := name_le g1 w1
   have h8 := name_le g8 w8
   refine ⟨⟨a0, a1, a2, a3, a4, a5, ⟨c0, c1, c2, c3, c4, rs⟩, d0, d1, d2, a8, a9, a10⟩, ks, tl, v11, v15, v19, rfl, ⟨hr.mono fun b _ h => h, hks, htl, ⟨f0, f2, f3, f4, f9, f10, by show a1.size ≤ _; omega, by show a8.size ≤ _; omega, optT_top _⟩⟩⟩
theorem ask_of {r : Reach} {b0 : Nat} {v : Value} {d : DataW H} {p : List MemPlace} (hv : Value.okWide Tryz.prog W r b0 52 v) (h : DataW.Trod enc Tryz.prog W 0 spare held 52 v d p) (hw : ∀ n ∈ d.weights Tryz.prog 52, n ≤ reachBytes) :
  ∃ q ks tl rv kv tv now, v = .agg ((reqC q rv kv tv).push (.int .i64 now)) ∧ ReqR W q ks tl rv kv tv := by
 obtain ⟨cs, rfl, hsz⟩ := Go.WideShapes.okWide_struct Tryz.underlying52 hv
 obtain ⟨l⟩ := cs
 obtain ⟨fuel, hf⟩ := h
 have hl : l.length = 21 := hsz.trans (by kernel_rfl)
 obtain ⟨xs, n', _, hx, hcl, hxl, hf2⟩ := DataW.trod_struct Tryz.underlying52 (show DataW.trod enc Tryz.prog W 0 spare held fuel 52 l = some (d, p) from hf)
 have hx2 : xs.length = 2 := hxl.trans (by kernel_rfl)
 clear hxl hf
 match l, hl, xs, hx2 with
 | [v0, v1, v2, v3, v4, v5, v6, v7, v8, v9, v10, v11, v12, v13, v14, v15, v16, v17, v18, v19, v20], _, [y0, y1], _ =>
  have t0 := hf2 0
  have t1 := hf2 1
  simp [q3, q50e] at t0 t1
  injection hx with hd _
  subst hd
  obtain ⟨now, e1, -, -⟩ := DataW.trod_int Tryz.underlying3 t1
  simp only [List.cons.injEq, and_true] at e1
  subst e1
  obtain ⟨q, ks, tl, rv, kv, tv, he, hR⟩ := req_fields t0 rfl fun n hn => hw n (by
   simp only [DataW.weights, Tryz.underlying52]
   exact DataW.weights_mem_each (j := 0) rfl rfl n hn)
  refine ⟨q, ks, tl, rv, kv, tv, now, ?_, hR⟩
  rw [← he]
  rfl
end
end Go.Proofs.YtfdhofabgdkkkaaGreatDoor
