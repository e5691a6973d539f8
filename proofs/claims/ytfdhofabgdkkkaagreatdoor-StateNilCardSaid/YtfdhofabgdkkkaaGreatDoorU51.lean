/- The argument opened: batches, a call; the table of steps as the row lays it. -/
import Derived.Test.YtfdhofabgdkkkaaGreatDoorRows
import Derived.Test.YtfdhofabgdkkkaaGreatDoorU33
import Derived.Deep.Slices
import Derived.ProofKit
import Derived.Lib.SmallJoins
import Derived.Lib.LaidTab
import Derived.MakeChecks
import Derived.Test.YtfdhofabgdkkkaaGreatDoorU50
namespace Go.Proofs.YtfdhofabgdkkkaaGreatDoor
open Go.ChangeShapes Go.WideShapes Go.ChangeAt Go.RowKit Go.Joins Go.Fm Go.Deep
set_option linter.unusedVariables false
set_option linter.unusedSimpArgs false
theorem steps_of {W : World} (h : laidMetH Tryz.prog [("flotsam/crcc.steps", Rows.laid_flotsam_crcc_steps)] W) : StepsOK W := by
 have h1 : laidMet Tryz.prog [("flotsam/crcc.steps", Lib.tabData .u32 (stepL.map fun (n : Nat) => (n : Int)))] W := by
  rw [MakeChecks.laidMetH_plain _ _ _ (by kernel_rfl)] at h
  exact h
 have hg : Tryz.prog.globalNamed "flotsam/crcc.steps" = some 0 := by kernel_rfl
 have ht := Lib.tabIs_of_head (P := Tryz.prog) (W := W) (n := 16) (e := 247) hg (t := 364) (by kernel_rfl) (by kernel_rfl) (by kernel_rfl) (by kernel_rfl) (by kernel_rfl) h1
 refine ⟨fun k hk => ?_⟩
 rw [ht.cell hg k (by simpa [stepL] using hk)]
 match k, hk with
 | 0, _ => rfl
 | 1, _ => rfl
 | 2, _ => rfl
 | 3, _ => rfl
 | 4, _ => rfl
 | 5, _ => rfl
 | 6, _ => rfl
 | 7, _ => rfl
 | 8, _ => rfl
 | 9, _ => rfl
 | 10, _ => rfl
 | 11, _ => rfl
 | 12, _ => rfl
 | 13, _ => rfl
 | 14, _ => rfl
 | 15, _ => rfl
 | k + 16, hk => omega
theorem add_off (a : Addr) (j : Nat) (h : 0 < j) : a.add j = ⟨a.block, a.off + j, none⟩ := by unfold Addr.add; rw [if_neg (by omega)]
theorem add_zero (a : Addr) : a.add 0 = a := by simp [Addr.add]
theorem q3 : Tryz.prog.cellsOf 3 = 1 := by kernel_rfl
theorem q4 : Tryz.prog.cellsOf 4 = 1 := by kernel_rfl
theorem q9 : Tryz.prog.cellsOf 9 = 1 := by kernel_rfl
theorem q22 : Tryz.prog.cellsOf 33 = 1 := by kernel_rfl
theorem q42 : Tryz.prog.cellsOf 93 = 1 := by kernel_rfl
theorem q46 : Tryz.prog.cellsOf 97 = 2 := by kernel_rfl
theorem q44 : Tryz.prog.cellsOf 95 = 7 := by kernel_rfl
theorem q24 : Tryz.prog.cellsOf 35 = 6 := by kernel_rfl
set_option maxRecDepth 100000
section
variable {H : Type} {enc : TypeId × Value → H} {W : World} {spare : Nat → Bool} {held : Bool}
theorem hds_of {m : Nat} {v : Value} {y : DataW H × List MemPlace} (h : DataW.trod enc Tryz.prog W 0 spare held m 93 [v] = some y) : ∃ hs, HdsR (fun _ => True) W v hs := by
 rcases open_slice Tryz.underlying93 h with ⟨h0, _⟩ | ⟨a, len, cap, m, n, D, Pl, h0, _, hl, _, hm, _, hel⟩
 ·injection h0 with h0 _
  exact ⟨[], none, 0, h0, fun i x hi => by simp at hi⟩
 ·injection h0 with h0 _
  subst h0
  have hm' : len ≤ m := by rw [hm]; split <;> omega
  obtain ⟨l, hll, hp⟩ := list_of_lt (n := len) (p := fun i (x : Hdr) => W.cell? (a.add (i * 2)) = some (.string x.key) ∧ W.cell? ⟨(a.add (i * 2)).block, (a.add (i * 2)).off + 1, none⟩ = some (.string x.val)) fun i hi => by
   obtain ⟨cs', hc, ht⟩ := hel i (by omega)
   rw [q46] at hc
   obtain ⟨xs, n', _, _, hcl, hxl, hf⟩ := DataW.trod_struct Tryz.underlying97 ht
   rw [q46] at hcl
   have hx2 : xs.length = 2 := hxl.trans (by kernel_rfl)
   clear hxl
   match cs', hcl, xs, hx2 with
   | [v0, v1], _, [y0, y1], _ =>
    have t0 := hf 0
    have t1 := hf 1
    simp [q9] at t0 t1
    obtain ⟨s0, e0, -, -⟩ := DataW.trod_string Tryz.underlying9 t0
    obtain ⟨s1, e1, -, -⟩ := DataW.trod_string Tryz.underlying9 t1
    simp only [List.cons.injEq, and_true] at e0 e1
    subst e0 e1
    obtain ⟨-, -, hg⟩ := World.cells?_some hc
    have g0 := hg 0 (by omega)
    have g1 := hg 1 (by omega)
    rw [add_zero] at g0
    rw [add_off _ 1 (by omega)] at g1
    exact ⟨⟨s0, s1⟩, by simpa using g0, by simpa using g1⟩
  exact ⟨l, some a, cap, by rw [hll], fun k x hx => ⟨a, rfl, trivial, hp k x hx⟩⟩
theorem recs_of {m : Nat} {v : Value} {y : DataW H × List MemPlace} (h : DataW.trod enc Tryz.prog W 0 spare held m 33 [v] = some y) : ∃ rs, RecsR (fun _ => True) W v rs := by
 rcases open_slice Tryz.underlying33 h with ⟨h0, _⟩ | ⟨a, len, cap, m, n, D, Pl, h0, _, hl, _, hm, _, hel⟩
 ·injection h0 with h0 _
  exact ⟨[], none, 0, h0, fun i x hi => by simp at hi⟩
 ·injection h0 with h0 _
  subst h0
  have hm' : len ≤ m := by rw [hm]; split <;> omega
  obtain ⟨l, hll, hp⟩ := list_of_lt (n := len) (p := fun i (x : Rec) => ∃ hv, RecAt W (a.add (i * 7)) x hv ∧ HdsR (fun _ => True) W hv x.hs) fun i hi => by
   obtain ⟨cs', hc, ht⟩ := hel i (by omega)
   rw [q44] at hc
   obtain ⟨xs, n', _, _, hcl, hxl, hf⟩ := DataW.trod_struct Tryz.underlying95 ht
   rw [q44] at hcl
   have hx7 : xs.length = 7 := hxl.trans (by kernel_rfl)
   clear hxl
   match cs', hcl, xs, hx7 with
   | [v0, v1, v2, v3, v4, v5, v6], _, [y0, y1, y2, y3, y4, y5, y6], _ =>
    have t0 := hf 0
    have t1 := hf 1
    have t2 := hf 2
    have t3 := hf 3
    have t4 := hf 4
    have t5 := hf 5
    have t6 := hf 6
    simp [q3, q4, q9, q42] at t0 t1 t2 t3 t4 t5 t6
    obtain ⟨n0, e0, -, -⟩ := DataW.trod_int Tryz.underlying3 t0
    obtain ⟨n1, e1, -, -⟩ := DataW.trod_int Tryz.underlying3 t1
    obtain ⟨n2, e2, -⟩ := DataW.trod_bool Tryz.underlying4 t2
    obtain ⟨n3, e3, -, -⟩ := DataW.trod_string Tryz.underlying9 t3
    obtain ⟨n4, e4, -⟩ := DataW.trod_bool Tryz.underlying4 t4
    obtain ⟨n5, e5, -, -⟩ := DataW.trod_string Tryz.underlying9 t5
    obtain ⟨hs, h6⟩ := hds_of t6
    simp only [List.cons.injEq, and_true] at e0 e1 e2 e3 e4 e5
    subst e0 e1 e2 e3 e4 e5
    obtain ⟨-, -, hg⟩ := World.cells?_some hc
    have g0 := hg 0 (by omega)
    have g1 := hg 1 (by omega)
    have g2 := hg 2 (by omega)
    have g3 := hg 3 (by omega)
    have g4 := hg 4 (by omega)
    have g5 := hg 5 (by omega)
    have g6 := hg 6 (by omega)
    rw [add_zero] at g0
    rw [add_off _ _ (by omega)] at g1 g2 g3 g4 g5 g6
    exact ⟨⟨n0, n1, n2, n3, n4, n5, hs⟩, v6, ⟨by simpa using g0, by simpa using g1, by simpa using g2, by simpa using g3, by simpa using g4, by simpa using g5, by simpa using g6⟩, h6⟩
  refine ⟨l, some a, cap, by rw [hll], fun k x hx => ?_⟩
  obtain ⟨hv, h1, h2⟩ := hp k x hx
  exact ⟨a, hv, rfl, trivial, h1, h2⟩
end
end Go.Proofs.YtfdhofabgdkkkaaGreatDoor
/- The argument opened: a request of any make. -/
namespace Go.Proofs.YtfdhofabgdkkkaaGreatDoor
open Go.RowKit Go.Fm Go.BigFrame Go.Shelf Go.Maps
set_option linter.unusedVariables false
set_option linter.unusedSimpArgs false
set_option maxRecDepth 100000
section
variable {H : Type} {enc : TypeId × Value → H} {W : World} {spare : Nat → Bool} {held : Bool}
theorem weights_all {P : Program} {e : TypeId} : ∀ {l : List (DataW H)} {d : DataW H}, d ∈ l → ∀ n ∈ d.weights P e, n ∈ DataW.weightsAll P e l
 | [], d, h, _, _ => by cases h
 | x :: l, d, h, n, hn => by
  simp only [DataW.weightsAll, List.mem_append]
  rcases List.mem_cons.1 h with rfl | h
  ·exact .inl hn
  ·exact .inr (weights_all h n hn)
theorem elem_at {e : TypeId} {a : Addr} {len m : Nat} {elems : List (DataW H × List MemPlace)} (hlen : elems.length = len) (hel : ∀ i, i < len → (W.cells? 0 (a.add (i * Tryz.prog.cellsOf e)) (Tryz.prog.cellsOf e)).bind (DataW.trod enc Tryz.prog W 0 spare held m e) = elems[i]?) {i : Nat} (hi : i < len) :
  ∃ cs y, W.cells? 0 (a.add (i * Tryz.prog.cellsOf e)) (Tryz.prog.cellsOf e) = some cs ∧ DataW.trod enc Tryz.prog W 0 spare held m e cs = some y ∧ y ∈ elems := by
 have h := hel i hi
 have he : i < elems.length := by omega
 rw [List.getElem?_eq_getElem he] at h
 obtain ⟨cs, h1, h2⟩ := Option.bind_eq_some_iff.1 h
 exact ⟨cs, _, h1, h2, List.getElem_mem he⟩
theorem strs_of {m : Nat} {v : Value} {y : DataW H × List MemPlace} (h : DataW.trod enc Tryz.prog W 0 spare held m 39 [v] = some y) (hw : ∀ n ∈ y.1.weights Tryz.prog 39, n ≤ reachBytes) : ∃ l, StrsR (fun i => i < W.heap.size) W v l := by
 rcases DataW.trod_slice Tryz.underlying39 h with ⟨h0, -⟩ | ⟨a, len, cap, elems, rest, n, -, h0, hy, -, hl, hcm, hlen, hel, -, -⟩
 ·injection h0 with h0 _
  exact ⟨[], none, 0, h0, Nat.zero_le _, fun i x hi => by simp at hi⟩
 ·injection h0 with h0 _
  subst h0
  obtain ⟨l, hll, hp⟩ := list_of_lt (n := len) (p := fun i (x : ByteArray) => W.cell? (a.add i) = some (.string x) ∧ x.size ≤ 150000000000000) fun i hi => by
   obtain ⟨cs, z, hc, ht, hz⟩ := elem_at hlen hel hi
   rw [q9] at hc
   obtain ⟨s, hs, hz2, -⟩ := DataW.trod_string Tryz.underlying9 ht
   subst hs
   obtain ⟨-, -, hg⟩ := World.cells?_some hc
   have g0 := hg 0 (by omega)
   rw [add_zero, Nat.mul_one] at g0
   refine ⟨s, by simpa using g0, ?_⟩
   have h1 : s.data.toList.length ∈ DataW.weightsAll Tryz.prog 9 (elems.map (·.1)) := weights_all (List.mem_map_of_mem hz) _ (by rw [hz2]; simp [DataW.weights])
   have h2 := hw s.data.toList.length (by rw [hy]; simp [DataW.weights, Tryz.underlying39]; exact .inr (.inl (by simpa using h1)))
   have h3 : s.data.toList.length = s.size := by rw [Array.length_toList]; rfl
   rw [h3] at h2
   unfold reachBytes at h2
   omega
  refine ⟨l, some a, cap, by rw [hll], by omega, fun i x hx => ⟨a, rfl, ?_, (hp i x hx).1, (hp i x hx).2⟩⟩
  have hb : (a.add i).block = a.block := by unfold Addr.add; split <;> rfl
  rw [← hb]
  exact World.block_lt_of_cell? W _ (hp i x hx).1
/-- Filters of a list. -/
def Fst.of : List (Int × ByteArray × ByteArray × Fst) → Fst
 | [] => .nil
 | x :: l => .cons x.1 x.2.1 x.2.2.1 x.2.2.2 (Fst.of l)
theorem Fst.of_len : ∀ l, (Fst.of l).len = l.length
 | [] => rfl
 | x :: l => by simp [Fst.of, Fst.len, Fst.of_len l]
def KidAt (W : World) (a : Addr) (i : Nat) (x : Int × ByteArray × ByteArray × Fst) : Prop := a.block < W.heap.size ∧ ∃ oa cap, PartAt W (a.add (i * 4)) x.1 x.2.1 x.2.2.1 (.slice oa x.2.2.2.len cap) ∧ x.2.2.2.len ≤ maxLen ∧ (x.2.2.2.len = 0 ∨ ∃ b, oa = some b ∧ ForR (fun i => i < W.heap.size) W x.2.2.2 b 0)
theorem for_of {a : Addr} : ∀ (l : List (Int × ByteArray × ByteArray × Fst)) (i : Nat), (∀ j x, l[j]? = some x → KidAt W a (i + j) x) → ForR (fun i => i < W.heap.size) W (Fst.of l) a i
 | [], i, _ => trivial
 | x :: l, i, h => by
  refine ⟨h 0 x rfl, for_of l (i + 1) fun j y hy => ?_⟩
  have := h (j + 1) y hy
  rw [show i + 1 + j = i + (j + 1) by omega]
  exact this
theorem q38e : Tryz.prog.cellsOf 38 = 4 := by kernel_rfl
theorem q36e : Tryz.prog.cellsOf 36 = 1 := by kernel_rfl
theorem kids_of (m : Nat) : ∀ {v : Value} {y : DataW H × List MemPlace}, DataW.trod enc Tryz.prog W 0 spare held m 36 [v] = some y → ∃ ks, KidR (fun i => i < W.heap.size) W v ks := by
 induction m using Nat.strongRecOn with
 | ind m ih =>
  intro v y h
  rcases DataW.trod_slice Tryz.underlying36 h with ⟨h0, -⟩ | ⟨a, len, cap, elems, rest, n, hmn, h0, hy, -, hl, hcm, hlen, hel, -, -⟩
  ·injection h0 with h0 _
   exact ⟨.nil, none, 0, h0, Nat.zero_le _, .inl rfl⟩
  ·injection h0 with h0 _
   subst h0
   obtain ⟨l, hll, hp⟩ := list_of_lt (n := len) (p := fun i (x : Int × ByteArray × ByteArray × Fst) => KidAt W a i x) fun i hi => by
    obtain ⟨cs, z, hc, ht, hz⟩ := elem_at hlen hel hi
    rw [q38e] at hc
    obtain ⟨xs, n', hn', _, hcl, hxl, hf⟩ := DataW.trod_struct Tryz.underlying38 ht
    rw [q38e] at hcl
    have hx4 : xs.length = 4 := hxl.trans (by kernel_rfl)
    clear hxl
    match cs, hcl, xs, hx4 with
    | [v0, v1, v2, v3], _, [y0, y1, y2, y3], _ =>
     have t0 := hf 0
     have t1 := hf 1
     have t2 := hf 2
     have t3 := hf 3
     simp [q3, q9, q36e] at t0 t1 t2 t3
     obtain ⟨n0, e0, -, -⟩ := DataW.trod_int Tryz.underlying3 t0
     obtain ⟨n1, e1, -, -⟩ := DataW.trod_string Tryz.underlying9 t1
     obtain ⟨n2, e2, -, -⟩ := DataW.trod_string Tryz.underlying9 t2
     obtain ⟨ks, oa, cap', hv3, hml, hks⟩ := ih n' (by omega) t3
     simp only [List.cons.injEq, and_true] at e0 e1 e2
     subst e0 e1 e2 hv3
     obtain ⟨-, -, hg⟩ := World.cells?_some hc
     have g0 := hg 0 (by omega)
     have g1 := hg 1 (by omega)
     have g2 := hg 2 (by omega)
     have g3 := hg 3 (by omega)
     rw [add_zero] at g0
     rw [add_off _ _ (by omega)] at g1 g2 g3
     have hb : (a.add (i * 4)).block = a.block := by unfold Addr.add; split <;> rfl
     refine ⟨⟨n0, n1, n2, ks⟩, ?_, oa, cap', ⟨by simpa using g0, by simpa using g1, by simpa using g2, by simpa using g3⟩, hml, hks⟩
     rw [← hb]
     exact World.block_lt_of_cell? W _ (show W.cell? (a.add (i * 4)) = some _ from by simpa using g0)
   refine ⟨Fst.of l, some a, cap, by rw [Fst.of_len, hll], by rw [Fst.of_len]; omega, .inr ⟨a, rfl, for_of l 0 fun j x hx => ?_⟩⟩
   rw [Nat.zero_add]
   exact hp j x hx
end
end Go.Proofs.YtfdhofabgdkkkaaGreatDoor
