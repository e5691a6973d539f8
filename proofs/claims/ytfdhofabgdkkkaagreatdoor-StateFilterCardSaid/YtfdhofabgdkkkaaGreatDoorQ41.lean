/- A machine that is none: the walk of StateNil. -/
import Derived.Test.YtfdhofabgdkkkaaGreatDoorQ39
import Derived.Test.YtfdhofabgdkkkaaGreatDoorQ40
import Derived.Test.YtfdhofabgdkkkaaGreatDoorRows
import Derived.Test.YtfdhofabgdkkkaaGreatDoorQ28
import Derived.Deep.Slices
import Derived.ProofKit
import Derived.Lib.SmallJoins
import Derived.Lib.LaidTab
import Derived.MakeChecks
import Derived.Test.YtfdhofabgdkkkaaGreatDoorQ35
namespace Go.Proofs.YtfdhofabgdkkkaaGreatDoor
open Go.RowKit Go.Fm Go.BigFrame Go.Shelf Go.Maps
set_option linter.unusedVariables false
set_option linter.unusedSimpArgs false
set_option maxRecDepth 100000
namespace Lcl
end Lcl
section
variable {w w' : World} {S : Nat → Prop} {K K2 K3 : Nat → Prop}
/-- A request that came in. -/
structure ReqR (w : World) (q : Req) (ks : Fst) (tl : List ByteArray) (rv kv tv : Value) : Prop where
 recs : RecsR (fun i => i < w.heap.size) w rv q.bat.recs
 kids : KidR (fun i => i < w.heap.size) w kv ks
 tops : StrsR (fun i => i < w.heap.size) w tv tl
 wf : ReqWf q
theorem ReqR.enc {q : Req} {ks : Fst} {tl : List ByteArray} {rv kv tv : Value} (h : ReqR w q ks tl rv kv tv) (hf : Fr (fun _ => False) w w') (hst : StepsOK w') :
  EncIn w' q rv kv tv (fun i => i < w.heap.size) (textS (ftxt q.fop q.fnm q.fvl ks)) (topT tl) (filOk q.fop q.fnm q.fvl ks) (topOk tl) := by
 refine ⟨h.recs.old hf, fun i hi => Nat.lt_of_lt_of_le hi hf.size, h.wf, hst, ?_, ?_, ?_⟩
 ·have := ftxt_size q.fop q.fnm q.fvl ks
  have := textS_sizeX (s := ftxt q.fop q.fnm q.fvl ks) (by omega)
  omega
 ·intro w1 cb xb hf1 hc hx hne hR w2 s bad hf2 hC hs
  have hp : PartAt w2 ⟨xb, 12, none⟩ q.fop q.fnm q.fvl kv := ⟨(hR.fr hf2 hne).cell 12, (hR.fr hf2 hne).cell 13, (hR.fr hf2 hne).cell 14, (hR.fr hf2 hne).cell 15⟩
  have sz := hf.size
  have sz1 := hf1.size
  have sz2 := hf2.size
  exact cfilter_walk (K := fun i => i < w.heap.size) hC _ _ _ _ ks hp (((h.kids.old hf).old hf1).fr hf2 fun i hi e => by omega) (fun i hi => by omega) hne hs
 ·intro w1 cb xb hf1 hc hx hne hR w2 bx s bad hf2 hC hB hbn hs
  have sz := hf.size
  have sz1 := hf1.size
  exact clist_walk (K := fun i => i < w.heap.size) hC tv tl ((hR.fr hf2 hne).cell 19) (((h.tops.old hf).old hf1).fr hf2 fun i hi e => by omega) (fun hi => by omega) bx hB hbn hne hs
end
end Go.Proofs.YtfdhofabgdkkkaaGreatDoor
/- The argument opened: batches, a call; the table of steps as the row lays it. -/
namespace Go.Proofs.YtfdhofabgdkkkaaGreatDoor
open Go.ChangeShapes Go.WideShapes Go.ChangeAt Go.RowKit Go.Joins Go.Fm Go.Deep
set_option linter.unusedVariables false
set_option linter.unusedSimpArgs false
theorem steps_of {W : World} (h : laidMetH Tryz.prog [("flotsam/crcc.steps", Rows.laid_flotsam_crcc_steps)] W) : StepsOK W := by
 have h1 : laidMet Tryz.prog [("flotsam/crcc.steps", Lib.tabData .u32 (stepL.map fun (n : Nat) => (n : Int)))] W := by
  rw [MakeChecks.laidMetH_plain _ _ _ (by kernel_rfl)] at h
  exact h
 have hg : Tryz.prog.globalNamed "flotsam/crcc.steps" = some 0 := by kernel_rfl
 have ht := Lib.tabIs_of_head (P := Tryz.prog) (W := W) (n := 16) (e := 247) hg (t := 364) (by kernel_rfl) (by kernel_rfl) (by kernel_rfl) (by kernel_rfl) (by kernel_rfl) h1
 refine ⟨fun k hk => ?_⟩
 rw [ht.cell hg k (by simpa [stepL] using hk)]
 match k, hk with
 | 0, _ => rfl
 | 1, _ => rfl
 | 2, _ => rfl
 | 3, _ => rfl
 | 4, _ => rfl
 | 5, _ => rfl
 | 6, _ => rfl
 | 7, _ => rfl
 | 8, _ => rfl
 | 9, _ => rfl
 | 10, _ => rfl
 | 11, _ => rfl
 | 12, _ => rfl
 | 13, _ => rfl
 | 14, _ => rfl
 | 15, _ => rfl
 | k + 16, hk => omega
theorem add_off (a : Addr) (j : Nat) (h : 0 < j) : a.add j = ⟨a.block, a.off + j, none⟩ := by unfold Addr.add; rw [if_neg (by omega)]
theorem add_zero (a : Addr) : a.add 0 = a := by simp [Addr.add]
theorem q3 : Tryz.prog.cellsOf 3 = 1 := by kernel_rfl
theorem q4 : Tryz.prog.cellsOf 4 = 1 := by kernel_rfl
theorem q9 : Tryz.prog.cellsOf 9 = 1 := by kernel_rfl
theorem q22 : Tryz.prog.cellsOf 33 = 1 := by kernel_rfl
theorem q42 : Tryz.prog.cellsOf 93 = 1 := by kernel_rfl
theorem q46 : Tryz.prog.cellsOf 97 = 2 := by kernel_rfl
theorem q44 : Tryz.prog.cellsOf 95 = 7 := by kernel_rfl
theorem q24 : Tryz.prog.cellsOf 35 = 6 := by kernel_rfl
set_option maxRecDepth 100000
section
variable {H : Type} {enc : TypeId × Value → H} {W : World} {spare : Nat → Bool} {held : Bool}
theorem hds_of {m : Nat} {v : Value} {y : DataW H × List MemPlace} (h : DataW.trod enc Tryz.prog W 0 spare held m 93 [v] = some y) : ∃ hs, HdsR (fun _ => True) W v hs := by
 rcases open_slice Tryz.underlying93 h with ⟨h0, _⟩ | ⟨a, len, cap, m, n, D, Pl, h0, _, hl, _, hm, _, hel⟩
 ·injection h0 with h0 _
  exact ⟨[], none, 0, h0, fun i x hi => by simp at hi⟩
 ·injection h0 with h0 _
  subst h0
  have hm' : len ≤ m := by rw [hm]; split <;> omega
  obtain ⟨l, hll, hp⟩ := list_of_lt (n := len) (p := fun i (x : Hdr) => W.cell? (a.add (i * 2)) = some (.string x.key) ∧ W.cell? ⟨(a.add (i * 2)).block, (a.add (i * 2)).off + 1, none⟩ = some (.string x.val)) fun i hi => by
   obtain ⟨cs', hc, ht⟩ := hel i (by omega)
   rw [q46] at hc
   obtain ⟨xs, n', _, _, hcl, hxl, hf⟩ := DataW.trod_struct Tryz.underlying97 ht
   rw [q46] at hcl
   have hx2 : xs.length = 2 := hxl.trans (by kernel_rfl)
   clear hxl
   match cs', hcl, xs, hx2 with
   | [v0, v1], _, [y0, y1], _ =>
    have t0 := hf 0
    have t1 := hf 1
    simp [q9] at t0 t1
    obtain ⟨s0, e0, -, -⟩ := DataW.trod_string Tryz.underlying9 t0
    obtain ⟨s1, e1, -, -⟩ := DataW.trod_string Tryz.underlying9 t1
    simp only [List.cons.injEq, and_true] at e0 e1
    subst e0 e1
    obtain ⟨-, -, hg⟩ := World.cells?_some hc
    have g0 := hg 0 (by omega)
    have g1 := hg 1 (by omega)
    rw [add_zero] at g0
    rw [add_off _ 1 (by omega)] at g1
    exact ⟨⟨s0, s1⟩, by simpa using g0, by simpa using g1⟩
  exact ⟨l, some a, cap, by rw [hll], fun k x hx => ⟨a, rfl, trivial, hp k x hx⟩⟩
theorem recs_of {m : Nat} {v : Value} {y : DataW H × List MemPlace} (h : DataW.trod enc Tryz.prog W 0 spare held m 33 [v] = some y) : ∃ rs, RecsR (fun _ => True) W v rs := by
 rcases open_slice Tryz.underlying33 h with ⟨h0, _⟩ | ⟨a, len, cap, m, n, D, Pl, h0, _, hl, _, hm, _, hel⟩
 ·injection h0 with h0 _
  exact ⟨[], none, 0, h0, fun i x hi => by simp at hi⟩
 ·injection h0 with h0 _
  subst h0
  have hm' : len ≤ m := by rw [hm]; split <;> omega
  obtain ⟨l, hll, hp⟩ := list_of_lt (n := len) (p := fun i (x : Rec) => ∃ hv, RecAt W (a.add (i * 7)) x hv ∧ HdsR (fun _ => True) W hv x.hs) fun i hi => by
   obtain ⟨cs', hc, ht⟩ := hel i (by omega)
   rw [q44] at hc
   obtain ⟨xs, n', _, _, hcl, hxl, hf⟩ := DataW.trod_struct Tryz.underlying95 ht
   rw [q44] at hcl
   have hx7 : xs.length = 7 := hxl.trans (by kernel_rfl)
   clear hxl
   match cs', hcl, xs, hx7 with
   | [v0, v1, v2, v3, v4, v5, v6], _, [y0, y1, y2, y3, y4, y5, y6], _ =>
    have t0 := hf 0
    have t1 := hf 1
    have t2 := hf 2
    have t3 := hf 3
    have t4 := hf 4
    have t5 := hf 5
    have t6 := hf 6
    simp [q3, q4, q9, q42] at t0 t1 t2 t3 t4 t5 t6
    obtain ⟨n0, e0, -, -⟩ := DataW.trod_int Tryz.underlying3 t0
    obtain ⟨n1, e1, -, -⟩ := DataW.trod_int Tryz.underlying3 t1
    obtain ⟨n2, e2, -⟩ := DataW.trod_bool Tryz.underlying4 t2
    obtain ⟨n3, e3, -, -⟩ := DataW.trod_string Tryz.underlying9 t3
    obtain ⟨n4, e4, -⟩ := DataW.trod_bool Tryz.underlying4 t4
    obtain ⟨n5, e5, -, -⟩ := DataW.trod_string Tryz.underlying9 t5
    obtain ⟨hs, h6⟩ := hds_of t6
    simp only [List.cons.injEq, and_true] at e0 e1 e2 e3 e4 e5
    subst e0 e1 e2 e3 e4 e5
    obtain ⟨-, -, hg⟩ := World.cells?_some hc
    have g0 := hg 0 (by omega)
    have g1 := hg 1 (by omega)
    have g2 := hg 2 (by omega)
    have g3 := hg 3 (by omega)
    have g4 := hg 4 (by omega)
    have g5 := hg 5 (by omega)
    have g6 := hg 6 (by omega)
    rw [add_zero] at g0
    rw [add_off _ _ (by omega)] at g1 g2 g3 g4 g5 g6
    exact ⟨⟨n0, n1, n2, n3, n4, n5, hs⟩, v6, ⟨by simpa using g0, by simpa using g1, by simpa using g2, by simpa using g3, by simpa using g4, by simpa using g5, by simpa using g6⟩, h6⟩
  refine ⟨l, some a, cap, by rw [hll], fun k x hx => ?_⟩
  obtain ⟨hv, h1, h2⟩ := hp k x hx
  exact ⟨a, hv, rfl, trivial, h1, h2⟩
theorem bats_of {m : Nat} {v : Value} {y : DataW H × List MemPlace} (h : DataW.trod enc Tryz.prog W 0 spare held m 22 [v] = some y) : ∃ bs, BatsR (fun _ => True) W v bs ∧ ∀ b ∈ bs, (Lit.int .i64 b.prod).wf = true := by
 rcases open_slice Tryz.underlying22 h with ⟨h0, _⟩ | ⟨a, len, cap, m, n, D, Pl, h0, _, hl, _, hm, _, hel⟩
 ·injection h0 with h0 _
  exact ⟨[], ⟨none, 0, h0, fun i x hi => by simp at hi⟩, fun b hb => by cases hb⟩
 ·injection h0 with h0 _
  subst h0
  have hm' : len ≤ m := by rw [hm]; split <;> omega
  obtain ⟨l, hll, hp⟩ := list_of_lt (n := len) (p := fun i (x : Bat) => (∃ hv, BatAt W (a.add (i * 6)) x hv ∧ RecsR (fun _ => True) W hv x.recs) ∧ (Lit.int .i64 x.prod).wf = true) fun i hi => by
   obtain ⟨cs', hc, ht⟩ := hel i (by omega)
   rw [q24] at hc
   obtain ⟨xs, n', _, _, hcl, hxl, hf⟩ := DataW.trod_struct Tryz.underlying35 ht
   rw [q24] at hcl
   have hx6 : xs.length = 6 := hxl.trans (by kernel_rfl)
   clear hxl
   match cs', hcl, xs, hx6 with
   | [v0, v1, v2, v3, v4, v5], _, [y0, y1, y2, y3, y4, y5], _ =>
    have t0 := hf 0
    have t1 := hf 1
    have t2 := hf 2
    have t3 := hf 3
    have t4 := hf 4
    have t5 := hf 5
    simp [q3, q22] at t0 t1 t2 t3 t4 t5
    obtain ⟨n0, e0, -, -⟩ := DataW.trod_int Tryz.underlying3 t0
    obtain ⟨n1, e1, -, -⟩ := DataW.trod_int Tryz.underlying3 t1
    obtain ⟨n2, e2, -, w2⟩ := DataW.trod_int Tryz.underlying3 t2
    obtain ⟨n3, e3, -, -⟩ := DataW.trod_int Tryz.underlying3 t3
    obtain ⟨n4, e4, -, -⟩ := DataW.trod_int Tryz.underlying3 t4
    obtain ⟨rs, h5⟩ := recs_of t5
    simp only [List.cons.injEq, and_true] at e0 e1 e2 e3 e4
    subst e0 e1 e2 e3 e4
    obtain ⟨-, -, hg⟩ := World.cells?_some hc
    have g0 := hg 0 (by omega)
    have g1 := hg 1 (by omega)
    have g2 := hg 2 (by omega)
    have g3 := hg 3 (by omega)
    have g4 := hg 4 (by omega)
    have g5 := hg 5 (by omega)
    rw [add_zero] at g0
    rw [add_off _ _ (by omega)] at g1 g2 g3 g4 g5
    exact ⟨⟨n0, n1, n2, n3, n4, rs⟩, ⟨v5, ⟨by simpa using g0, by simpa using g1, by simpa using g2, by simpa using g3, by simpa using g4, by simpa using g5⟩, h5⟩, w2⟩
  refine ⟨l, ⟨some a, cap, by rw [hll], fun k x hx => ?_⟩, fun b hb => ?_⟩
  ·obtain ⟨⟨hv, h1, h2⟩, -⟩ := hp k x hx
   exact ⟨a, hv, rfl, trivial, h1, h2⟩
  ·obtain ⟨k, hk⟩ := List.getElem?_of_mem hb
   exact (hp k b hk).2
end
end Go.Proofs.YtfdhofabgdkkkaaGreatDoor
/- The argument opened: a request of any make. -/
namespace Go.Proofs.YtfdhofabgdkkkaaGreatDoor
open Go.RowKit Go.Fm Go.BigFrame Go.Shelf Go.Maps
set_option linter.unusedVariables false
set_option linter.unusedSimpArgs false
set_option maxRecDepth 100000
section
variable {H : Type} {enc : TypeId × Value → H} {W : World} {spare : Nat → Bool} {held : Bool}
theorem elem_at {e : TypeId} {a : Addr} {len m : Nat} {elems : List (DataW H × List MemPlace)} (hlen : elems.length = len) (hel : ∀ i, i < len → (W.cells? 0 (a.add (i * Tryz.prog.cellsOf e)) (Tryz.prog.cellsOf e)).bind (DataW.trod enc Tryz.prog W 0 spare held m e) = elems[i]?) {i : Nat} (hi : i < len) :
  ∃ cs y, W.cells? 0 (a.add (i * Tryz.prog.cellsOf e)) (Tryz.prog.cellsOf e) = some cs ∧ DataW.trod enc Tryz.prog W 0 spare held m e cs = some y ∧ y ∈ elems := by
 have h := hel i hi
 have he : i < elems.length := by omega
 rw [List.getElem?_eq_getElem he] at h
 obtain ⟨cs, h1, h2⟩ := Option.bind_eq_some_iff.1 h
 exact ⟨cs, _, h1, h2, List.getElem_mem he⟩
/-- Filters of a list. -/
def Fst.of : List (Int × ByteArray × ByteArray × Fst) → Fst
 | [] => .nil
 | x :: l => .cons x.1 x.2.1 x.2.2.1 x.2.2.2 (Fst.of l)
theorem Fst.of_len : ∀ l, (Fst.of l).len = l.length
 | [] => rfl
 | x :: l => by simp [Fst.of, Fst.len, Fst.of_len l]
def KidAt (W : World) (a : Addr) (i : Nat) (x : Int × ByteArray × ByteArray × Fst) : Prop := a.block < W.heap.size ∧ ∃ oa cap, PartAt W (a.add (i * 4)) x.1 x.2.1 x.2.2.1 (.slice oa x.2.2.2.len cap) ∧ x.2.2.2.len ≤ maxLen ∧ (x.2.2.2.len = 0 ∨ ∃ b, oa = some b ∧ ForR (fun i => i < W.heap.size) W x.2.2.2 b 0)
theorem for_of {a : Addr} : ∀ (l : List (Int × ByteArray × ByteArray × Fst)) (i : Nat), (∀ j x, l[j]? = some x → KidAt W a (i + j) x) → ForR (fun i => i < W.heap.size) W (Fst.of l) a i
 | [], i, _ => trivial
 | x :: l, i, h => by
  refine ⟨h 0 x rfl, for_of l (i + 1) fun j y hy => ?_⟩
  have := h (j + 1) y hy
  rw [show i + 1 + j = i + (j + 1) by omega]
  exact this
theorem q38e : Tryz.prog.cellsOf 38 = 4 := by kernel_rfl
theorem q36e : Tryz.prog.cellsOf 36 = 1 := by kernel_rfl
theorem kids_of (m : Nat) : ∀ {v : Value} {y : DataW H × List MemPlace}, DataW.trod enc Tryz.prog W 0 spare held m 36 [v] = some y → ∃ ks, KidR (fun i => i < W.heap.size) W v ks := by
 induction m using Nat.strongRecOn with
 | ind m ih =>
  intro v y h
  rcases DataW.trod_slice Tryz.underlying36 h with ⟨h0, -⟩ | ⟨a, len, cap, elems, rest, n, hmn, h0, hy, -, hl, hcm, hlen, hel, -, -⟩
  ·injection h0 with h0 _
   exact ⟨.nil, none, 0, h0, Nat.zero_le _, .inl rfl⟩
  ·injection h0 with h0 _
   subst h0
   obtain ⟨l, hll, hp⟩ := list_of_lt (n := len) (p := fun i (x : Int × ByteArray × ByteArray × Fst) => KidAt W a i x) fun i hi => by
    obtain ⟨cs, z, hc, ht, hz⟩ := elem_at hlen hel hi
    rw [q38e] at hc
    obtain ⟨xs, n', hn', _, hcl, hxl, hf⟩ := DataW.trod_struct Tryz.underlying38 ht
    rw [q38e] at hcl
    have hx4 : xs.length = 4 := hxl.trans (by kernel_rfl)
    clear hxl
    match cs, hcl, xs, hx4 with
    | [v0, v1, v2, v3], _, [y0, y1, y2, y3], _ =>
     have t0 := hf 0
     have t1 := hf 1
     have t2 := hf 2
     have t3 := hf 3
     simp [q3, q9, q36e] at t0 t1 t2 t3
     obtain ⟨n0, e0, -, -⟩ := DataW.trod_int Tryz.underlying3 t0
     obtain ⟨n1, e1, -, -⟩ := DataW.trod_string Tryz.underlying9 t1
     obtain ⟨n2, e2, -, -⟩ := DataW.trod_string Tryz.underlying9 t2
     obtain ⟨ks, oa, cap', hv3, hml, hks⟩ := ih n' (by omega) t3
     simp only [List.cons.injEq, and_true] at e0 e1 e2
     subst e0 e1 e2 hv3
     obtain ⟨-, -, hg⟩ := World.cells?_some hc
     have g0 := hg 0 (by omega)
     have g1 := hg 1 (by omega)
     have g2 := hg 2 (by omega)
     have g3 := hg 3 (by omega)
     rw [add_zero] at g0
     rw [add_off _ _ (by omega)] at g1 g2 g3
     have hb : (a.add (i * 4)).block = a.block := by unfold Addr.add; split <;> rfl
     refine ⟨⟨n0, n1, n2, ks⟩, ?_, oa, cap', ⟨by simpa using g0, by simpa using g1, by simpa using g2, by simpa using g3⟩, hml, hks⟩
     rw [← hb]
     exact World.block_lt_of_cell? W _ (show W.cell? (a.add (i * 4)) = some _ from by simpa using g0)
   refine ⟨Fst.of l, some a, cap, by rw [Fst.of_len, hll], by rw [Fst.of_len]; omega, .inr ⟨a, rfl, for_of l 0 fun j x hx => ?_⟩⟩
   rw [Nat.zero_add]
   exact hp j x hx
end
end Go.Proofs.YtfdhofabgdkkkaaGreatDoor
/- A producer that sends each batch twice: the laws of one partition. -/
namespace Go.Proofs.YtfdhofabgdkkkaaGreatDoor
open Go.RowKit Go.Fm Go.BigFrame Go.Shelf Go.Maps
set_option linter.unusedVariables false
set_option linter.unusedSimpArgs false
set_option maxRecDepth 100000
section
variable {w w' : World} {S : Nat → Prop}
end
end Go.Proofs.YtfdhofabgdkkkaaGreatDoor
/- A producer that sends each batch twice: the walk of StateAgain. -/
namespace Go.Proofs.YtfdhofabgdkkkaaGreatDoor
open Go.RowKit Go.Fm Go.BigFrame Go.Shelf Go.Maps
set_option linter.unusedVariables false
set_option linter.unusedSimpArgs false
set_option maxRecDepth 100000
section
variable {w w' : World} {S : Nat → Prop}
end
end Go.Proofs.YtfdhofabgdkkkaaGreatDoor
/- The argument opened: what is asked, and when. -/
namespace Go.Proofs.YtfdhofabgdkkkaaGreatDoor
open Go.RowKit Go.Fm Go.BigFrame Go.Shelf Go.Maps
set_option linter.unusedVariables false
set_option linter.unusedSimpArgs false
set_option maxRecDepth 100000
section
variable {H : Type} {enc : TypeId × Value → H} {W : World} {spare : Nat → Bool} {held : Bool}
end
end Go.Proofs.YtfdhofabgdkkkaaGreatDoor
/- Which records a filter of any make lets through: the record's own parts. -/
namespace Go.Proofs.YtfdhofabgdkkkaaGreatDoor
open Go.RowKit Go.Fm Go.BigFrame Go.Shelf Go.Maps
set_option linter.unusedVariables false
set_option linter.unusedSimpArgs false
set_option maxRecDepth 100000
section
variable {w w' : World} {S : Nat → Prop} {K K2 : Nat → Prop}
/-- The value of the first header of a name. -/
def headF : List Hdr → ByteArray → Option ByteArray
 | [], _ => none
 | h :: r, nm => if h.key.toList = nm.toList then some h.val else headF r nm
def HeadPost (v : Option ByteArray) (w : World) (e : Ending) (w' : World) : Prop := e = .returned (.tuple #[.string (v.getD ⟨#[]⟩), .bool v.isSome]) ∧ Fr (fun _ => False) w w'
theorem headF_cons (h : Hdr) (r : List Hdr) (nm : ByteArray) : headF (h :: r) nm = if h.key.toList = nm.toList then some h.val else headF r nm := rfl
set_option maxHeartbeats 16000000 in
theorem header_walk (r : Rec) (hv : Value) (nm : ByteArray) (hh : HdsR K w hv r.hs) (hl : r.hs.length ≤ 1000) : Calls Tryz.prog 152 #[recV r hv, .string nm] w (HeadPost (headF r.hs nm) w) := by
 obtain ⟨ho, hc, rfl, -⟩ := id hh
 have F1 := Lib.hid ((Fr.same w).alloc (.cells #[.int .i64 r.at', .int .i64 r.tm, .bool r.bare, .string r.key, .bool r.gone, .string r.val, .slice ho r.hs.length hc] 95))
 have X1 := Lib.hid (heap_alloc_self w (.cells #[.int .i64 r.at', .int .i64 r.tm, .bool r.bare, .string r.key, .bool r.gone, .string r.val, .slice ho r.hs.length hc] 95))
 have HW := Lib.hid hh
 have dx := cell_of X1.out
 unfold recV
 clear hh
 go_enter Tryz.func152, Tryz.ntmps152
 go_wp2_with fail
 generalize (w.alloc (.cells #[.int .i64 r.at', .int .i64 r.tm, .bool r.bare, .string r.key, .bool r.gone, .string r.val, .slice ho r.hs.length hc] 95)) = w1 at *
 clear dx
 go_loopw [11] (fun i wr => ∃ k : Nat, i = .int .i64 k ∧ k ≤ r.hs.length ∧ headF r.hs nm = headF (r.hs.drop k) nm ∧ Fr (fun _ => False) w1 wr) (fun i _ => r.hs.length - (intOf i).toNat)
 case atStart => exact ⟨0, rfl, Nat.zero_le _, by rw [List.drop_zero], Fr.same _⟩
 case round =>
  obtain ⟨k, rfl, hk, hall, hF⟩ := hrel
  have FF := Lib.hid (F1.out.tr hF)
  have FW := Lib.hid hF
  have ALL := Lib.hid hall
  clear hF hall
  rcases Nat.lt_or_ge k r.hs.length with hlt | hge
  ·obtain ⟨x, hx⟩ := get_of_lt hlt
   obtain ⟨oa', cap', hsl, hab⟩ := HW.out.old FF.out
   injection hsl with e1 e2 e3
   subst e1
   obtain ⟨a, rfl, -, c0, c1⟩ := hab k x hx
   have hd : r.hs.drop k = x :: r.hs.drop (k + 1) := by
    rw [List.drop_eq_getElem_cons hlt]
    congr 1
    have := List.getElem?_eq_getElem hlt
    rw [hx] at this
    exact (Option.some.inj this).symm
   have fa := (Fr.same wr).alloc (.cells #[.string x.key, .string x.val] 97)
   have dy := cell_alloc_new wr #[.string x.key, .string x.val] 97
   have FA := Lib.hid (FF.out.tr fa)
   have FB := Lib.hid (FW.out.tr fa)
   have HD := Lib.hid hd
   clear fa hd hx hab e2 e3
   by_cases heq : x.key.toList = nm.toList
   ·have E := Lib.hid (show headF r.hs nm = some x.val by rw [ALL.out, HD.out, headF_cons, if_pos heq])
    have hbq : (x.key.toList == nm.toList) = true := by simpa using heq
    go_wp2_with fail
    go_ret2
    exact ⟨by rw [E.out]; rfl, FA.out⟩
   ·have E := Lib.hid (show headF r.hs nm = headF (r.hs.drop (k + 1)) nm by rw [ALL.out, HD.out, headF_cons, if_neg heq])
    have hbq : (x.key.toList == nm.toList) = false := by simpa using heq
    go_wp2_with fail
    go_roundw
    case rel => exact ⟨k + 1, by go_num, by omega, E.out, FB.out⟩
    case measure => simp [intOf]; omega
  ·obtain rfl : k = r.hs.length := by omega
   have E := Lib.hid (show headF r.hs nm = none by rw [ALL.out, List.drop_length]; rfl)
   go_wp2_with fail
   go_ret2
   exact ⟨by rw [E.out]; rfl, FF.out⟩
end
end Go.Proofs.YtfdhofabgdkkkaaGreatDoor
