/- What steps leave of a log, plain. -/
import Derived.Test.YtdlnafhhkpklmaaGreatDoorY49
import Derived.Test.YtdlnafhhkpklmaaGreatDoorRows
import Derived.Test.YtdlnafhhkpklmaaGreatDoorY17
import Derived.Deep.Slices
import Derived.ProofKit
import Derived.Lib.SmallJoins
import Derived.Lib.LaidTab
import Derived.MakeChecks
namespace Go.Proofs.YtdlnafhhkpklmaaGreatDoor
open Go.RowKit Go.Fm Go.BigFrame Go.Shelf Go.Maps
set_option linter.unusedVariables false
set_option linter.unusedSimpArgs false
set_option maxRecDepth 100000
section
variable {es : List PE} {ss : List Seg} {all : List Bat} {before U : Int} {q : Nat} {s : Seg} {l : List Bat}
theorem lists_segs (es : List PE) : listsOf es = (segsOf es).map (·.l) := by unfold listsOf segsOf; rw [List.map_map]; rfl
theorem cat_split {ss : List Seg} (hs : ss[q]? = some s) : catL ss = catL (ss.take q) ++ s.l ++ catL (ss.drop (q + 1)) := by
 obtain ⟨h1, e1⟩ := List.getElem?_eq_some_iff.1 hs
 have h2 : ss = ss.take q ++ (s :: ss.drop (q + 1)) := by
  rw [← e1, ← List.drop_eq_getElem_cons h1, List.take_append_drop]
 conv => lhs; rw [h2]
 unfold catL
 rw [List.flatMap_append, List.flatMap_cons, List.append_assoc]
theorem uptoF_le {X : Int} (h0 : 0 ≤ X) {ls : List (List Bat)} (h : ∀ l ∈ ls, ∀ b ∈ l, b.base + b.span ≤ X) : uptoF ls ≤ X := by
 have key : ∀ (ls : List (List Bat)) (a : Int), a ≤ X → (∀ l ∈ ls, ∀ b ∈ l, b.base + b.span ≤ X) → ls.foldl (fun a l => max a (endL l)) a ≤ X := by
  intro ls
  induction ls with
  | nil => exact fun a ha _ => ha
  | cons x l ih =>
   intro a ha h
   rw [List.foldl_cons]
   refine ih _ ?_ fun y hy => h y (List.mem_cons_of_mem _ hy)
   have h2 : endL x ≤ X := by
    unfold endL
    cases e : x.getLast? with
    | none => exact h0
    | some b => exact h x List.mem_cons_self b (List.mem_of_getLast? e)
   omega
 exact key ls 0 h0 h
/-- What is known of a log's batches. -/
structure Rows (ss : List Seg) : Prop where
 rise : RiseB (catL ss)
 ok : ∀ b ∈ catL ss, BatOK b
 ch : ∀ s ∈ ss, Chn s.base s.l
 ne : ∀ s ∈ ss, s.l ≠ []
theorem mem_cat {ss : List Seg} {s : Seg} (hs : s ∈ ss) {b : Bat} (hb : b ∈ s.l) : b ∈ catL ss := by
 unfold catL
 exact List.mem_flatMap.2 ⟨s, hs, hb⟩
/-- All batches ahead of a segment end ahead of its own ones. -/
theorem Rows.ahead (R : Rows ss) (hs : ss[q]? = some s) {b : Bat} (hb : b ∈ s.l) : uptoF ((ss.map (·.l)).take q) ≤ b.base := by
 have hr := R.rise
 rw [cat_split hs] at hr
 obtain ⟨h1, -, -⟩ := List.pairwise_append.1 hr
 obtain ⟨-, -, h3⟩ := List.pairwise_append.1 h1
 refine uptoF_le (R.ok b (mem_cat (List.mem_of_getElem? hs) hb)).base0 fun l hl c hc => ?_
 rw [← List.map_take] at hl
 obtain ⟨s', hs', rfl⟩ := List.mem_map.1 hl
 exact h3 c (mem_cat hs' hc) b hb
theorem Rows.seg (R : Rows ss) (U before : Int) (hs : ss[q]? = some s) : CleanOf (fun b => isHi U b = true) s.l ((cleanedL (catL ss) U before).filter (inR s.l)) := by
 have h1 := clean_of (keysTo (catL ss) (catL ss).length) (ownersTo (catL ss) (catL ss).length) U before (catL ss) (catL ss).length (Nat.le_refl _)
 rw [List.take_length] at h1
 have h2 : CleanOf (fun b => isHi U b = true) (catL (ss.take q) ++ s.l ++ catL (ss.drop (q + 1))) (cleanedL (catL ss) U before) := by
  rw [← cat_split hs]
  exact h1
 refine clean_seg h2 ?_ fun b hb => ?_
 ·rw [← cat_split hs]; exact R.rise
 ·rw [← cat_split hs] at hb; exact (R.ok b hb).span0
theorem lefts_get {ls : List (List Bat)} (h : (leftsL ls all before)[q]? = some l) : q < ls.length - 1 ∧ ∃ x, ls[q]? = some x ∧ l = (cleanedL all (uptoF (ls.take (ls.length - 1))) before).filter (inR x) := by
 unfold leftsL at h
 split at h
 ·cases h
 ·unfold leftOf at h
  rw [List.getElem?_map, Option.map_eq_some_iff] at h
  obtain ⟨x, hx, rfl⟩ := h
  rw [List.getElem?_take] at hx
  split at hx
  ·exact ⟨by assumption, x, hx, rfl⟩
  ·cases hx
theorem lefts_len (ls : List (List Bat)) (all : List Bat) (before : Int) : (leftsL ls all before).length = ls.length - 1 := by
 unfold leftsL
 split
 ·rename_i h; show 0 = _; omega
 ·unfold leftOf; rw [List.length_map, List.length_take]; omega
theorem Rows.left (R : Rows ss) (before : Int) : LeftOK ss (leftsL (ss.map (·.l)) (catL ss) before) := by
 intro q s l hs hl hne
 obtain ⟨-, x, hx, rfl⟩ := lefts_get hl
 rw [List.getElem?_map, hs] at hx
 injection hx with hx
 subst hx
 exact left_ok (R.ch s (List.mem_of_getElem? hs)) (R.seg _ before hs) hne
theorem updN_all (hl : ss.length = q + 1) {lf : List (List Bat)} (hq : lf.length = q) {i : Nat} {s : Seg} (hs : ss[i]? = some s) : (updN ss lf q)[i]? = some (match lf[i]? with | some l => updS s l | none => s) := by
 obtain ⟨h1, e1⟩ := List.getElem?_eq_some_iff.1 hs
 have hz := updZ_len (ss := ss) (lf := lf) (j := q) (by omega) (by omega)
 unfold updN
 rcases Nat.lt_or_ge i q with h | h
 ·rw [List.getElem?_append_left (by omega)]
  obtain ⟨l, hli⟩ := get_of_lt (show i < lf.length by omega)
  rw [hli]
  unfold updZ
  rw [List.getElem?_zipWith, List.getElem?_take, if_pos h, List.getElem?_take, if_pos h, hs, hli]
 ·obtain rfl : i = q := by omega
  have hli : lf[i]? = none := List.getElem?_eq_none (by omega)
  rw [hli, List.getElem?_append_right (by omega), hz, Nat.sub_self, List.getElem?_drop, Nat.add_zero]
  exact hs
/-- Behind all steps a segment has what the document says. -/
theorem Rows.final (R : Rows ss) (before : Int) {i : Nat} (hs : ss[i]? = some s) : ∃ t, (updN ss (leftsL (ss.map (·.l)) (catL ss) before) (ss.length - 1))[i]? = some t ∧ t.base = s.base ∧ t.l = insideL (cleanedL (catL ss) (uptoF ((ss.map (·.l)).take (ss.length - 1))) before) s.l := by
 have hi := (List.getElem?_eq_some_iff.1 hs).1
 have hlen := lefts_len (ss.map (·.l)) (catL ss) before
 rw [List.length_map] at hlen
 have hu := updN_all (q := ss.length - 1) (by omega) hlen hs
 have hc := R.seg (uptoF ((ss.map (·.l)).take (ss.length - 1))) before hs
 have hsne := R.ne s (List.mem_of_getElem? hs)
 rcases Nat.lt_or_ge i (ss.length - 1) with h | h
 ·obtain ⟨l, hl⟩ := get_of_lt (show i < (leftsL (ss.map (·.l)) (catL ss) before).length by omega)
  obtain ⟨-, x, hx, hlx⟩ := lefts_get hl
  rw [List.getElem?_map, hs] at hx
  injection hx with hx
  subst hx
  rw [List.length_map] at hlx
  rw [hl] at hu
  refine ⟨_, hu, ?_, ?_⟩
  ·show (updS s l).base = _
   unfold updS
   split <;> rfl
  ·show (updS s l).l = _
   unfold insideL
   rw [← hlx] at hc ⊢
   unfold updS
   by_cases h0 : l = []
   ·rw [if_neg (by rw [h0]; simp), if_pos h0]
   ·have hpos : 0 < l.length := List.length_pos_iff.2 h0
    rw [if_neg h0]
    by_cases hn : cntL l < cntL s.l
    ·rw [if_pos ⟨hpos, hn⟩]
    ·rw [if_neg fun h => hn h.2]
     have h1 := hc.cnt
     exact (h1.2 (by omega)).symm
 ·have hnone : (leftsL (ss.map (·.l)) (catL ss) before)[i]? = Option.none := List.getElem?_eq_none (by omega)
  rw [hnone] at hu
  refine ⟨s, hu, rfl, ?_⟩
  have hie : i = ss.length - 1 := by omega
  have hall := hc.all fun b hb => by
   have h1 := R.ahead hs hb
   have h2 := (R.ok b (mem_cat (List.mem_of_getElem? hs) hb)).span0
   rw [hie] at h1
   unfold isHi
   simp only [decide_eq_true_eq]
   omega
  unfold insideL
  rw [hall, if_neg hsne]
end
end Go.Proofs.YtdlnafhhkpklmaaGreatDoor
/- The argument opened: batches, a call; the table of steps as the row lays it. -/
namespace Go.Proofs.YtdlnafhhkpklmaaGreatDoor
open Go.ChangeShapes Go.WideShapes Go.ChangeAt Go.RowKit Go.Joins Go.Fm Go.Deep
set_option linter.unusedVariables false
set_option linter.unusedSimpArgs false
theorem steps_of {W : World} (h : laidMetH Tryz.prog [("flotsam/crcc.steps", Rows.laid_flotsam_crcc_steps)] W) : StepsOK W := by
 have h1 : laidMet Tryz.prog [("flotsam/crcc.steps", Lib.tabData .u32 (stepL.map fun (n : Nat) => (n : Int)))] W := by
  rw [MakeChecks.laidMetH_plain _ _ _ (by kernel_rfl)] at h
  exact h
 have hg : Tryz.prog.globalNamed "flotsam/crcc.steps" = some 0 := by kernel_rfl
 have ht := Lib.tabIs_of_head (P := Tryz.prog) (W := W) (n := 16) (e := 153) hg (t := 204) (by kernel_rfl) (by kernel_rfl) (by kernel_rfl) (by kernel_rfl) (by kernel_rfl) h1
 refine ⟨fun k hk => ?_⟩
 rw [ht.cell hg k (by simpa [stepL] using hk)]
 match k, hk with
 | 0, _ => rfl
 | 1, _ => rfl
 | 2, _ => rfl
 | 3, _ => rfl
 | 4, _ => rfl
 | 5, _ => rfl
 | 6, _ => rfl
 | 7, _ => rfl
 | 8, _ => rfl
 | 9, _ => rfl
 | 10, _ => rfl
 | 11, _ => rfl
 | 12, _ => rfl
 | 13, _ => rfl
 | 14, _ => rfl
 | 15, _ => rfl
 | k + 16, hk => omega
theorem add_off (a : Addr) (j : Nat) (h : 0 < j) : a.add j = ⟨a.block, a.off + j, none⟩ := by unfold Addr.add; rw [if_neg (by omega)]
theorem add_zero (a : Addr) : a.add 0 = a := by simp [Addr.add]
theorem q3 : Tryz.prog.cellsOf 3 = 1 := by kernel_rfl
theorem q4 : Tryz.prog.cellsOf 4 = 1 := by kernel_rfl
theorem q9 : Tryz.prog.cellsOf 9 = 1 := by kernel_rfl
theorem q22 : Tryz.prog.cellsOf 34 = 1 := by kernel_rfl
theorem q42 : Tryz.prog.cellsOf 77 = 1 := by kernel_rfl
theorem q46 : Tryz.prog.cellsOf 94 = 2 := by kernel_rfl
theorem q44 : Tryz.prog.cellsOf 79 = 7 := by kernel_rfl
theorem q24 : Tryz.prog.cellsOf 36 = 6 := by kernel_rfl
set_option maxRecDepth 100000
section
variable {H : Type} {enc : TypeId × Value → H} {W : World} {spare : Nat → Bool} {held : Bool}
theorem hds_of {m : Nat} {v : Value} {y : DataW H × List MemPlace} (h : DataW.trod enc Tryz.prog W 0 spare held m 77 [v] = some y) : ∃ hs, HdsR (fun _ => True) W v hs := by
 rcases open_slice Tryz.underlying77 h with ⟨h0, _⟩ | ⟨a, len, cap, m, n, D, Pl, h0, _, hl, _, hm, _, hel⟩
 ·injection h0 with h0 _
  exact ⟨[], none, 0, h0, fun i x hi => by simp at hi⟩
 ·injection h0 with h0 _
  subst h0
  have hm' : len ≤ m := by rw [hm]; split <;> omega
  obtain ⟨l, hll, hp⟩ := list_of_lt (n := len) (p := fun i (x : Hdr) => W.cell? (a.add (i * 2)) = some (.string x.key) ∧ W.cell? ⟨(a.add (i * 2)).block, (a.add (i * 2)).off + 1, none⟩ = some (.string x.val)) fun i hi => by
   obtain ⟨cs', hc, ht⟩ := hel i (by omega)
   rw [q46] at hc
   obtain ⟨xs, n', _, _, hcl, hxl, hf⟩ := DataW.trod_struct Tryz.underlying94 ht
   rw [q46] at hcl
   have hx2 : xs.length = 2 := hxl.trans (by kernel_rfl)
   clear hxl
   match cs', hcl, xs, hx2 with
   | [v0, v1], _, [y0, y1], _ =>
    have t0 := hf 0
    have t1 := hf 1
    simp [q9] at t0 t1
    obtain ⟨s0, e0, -, -⟩ := DataW.trod_string Tryz.underlying9 t0
    obtain ⟨s1, e1, -, -⟩ := DataW.trod_string Tryz.underlying9 t1
    simp only [List.cons.injEq, and_true] at e0 e1
    subst e0 e1
    obtain ⟨-, -, hg⟩ := World.cells?_some hc
    have g0 := hg 0 (by omega)
    have g1 := hg 1 (by omega)
    rw [add_zero] at g0
    rw [add_off _ 1 (by omega)] at g1
    exact ⟨⟨s0, s1⟩, by simpa using g0, by simpa using g1⟩
  exact ⟨l, some a, cap, by rw [hll], fun k x hx => ⟨a, rfl, trivial, hp k x hx⟩⟩
theorem recs_of {m : Nat} {v : Value} {y : DataW H × List MemPlace} (h : DataW.trod enc Tryz.prog W 0 spare held m 34 [v] = some y) : ∃ rs, RecsR (fun _ => True) W v rs := by
 rcases open_slice Tryz.underlying34 h with ⟨h0, _⟩ | ⟨a, len, cap, m, n, D, Pl, h0, _, hl, _, hm, _, hel⟩
 ·injection h0 with h0 _
  exact ⟨[], none, 0, h0, fun i x hi => by simp at hi⟩
 ·injection h0 with h0 _
  subst h0
  have hm' : len ≤ m := by rw [hm]; split <;> omega
  obtain ⟨l, hll, hp⟩ := list_of_lt (n := len) (p := fun i (x : Rec) => ∃ hv, RecAt W (a.add (i * 7)) x hv ∧ HdsR (fun _ => True) W hv x.hs) fun i hi => by
   obtain ⟨cs', hc, ht⟩ := hel i (by omega)
   rw [q44] at hc
   obtain ⟨xs, n', _, _, hcl, hxl, hf⟩ := DataW.trod_struct Tryz.underlying79 ht
   rw [q44] at hcl
   have hx7 : xs.length = 7 := hxl.trans (by kernel_rfl)
   clear hxl
   match cs', hcl, xs, hx7 with
   | [v0, v1, v2, v3, v4, v5, v6], _, [y0, y1, y2, y3, y4, y5, y6], _ =>
    have t0 := hf 0
    have t1 := hf 1
    have t2 := hf 2
    have t3 := hf 3
    have t4 := hf 4
    have t5 := hf 5
    have t6 := hf 6
    simp [q3, q4, q9, q42] at t0 t1 t2 t3 t4 t5 t6
    obtain ⟨n0, e0, -, -⟩ := DataW.trod_int Tryz.underlying3 t0
    obtain ⟨n1, e1, -, -⟩ := DataW.trod_int Tryz.underlying3 t1
    obtain ⟨n2, e2, -⟩ := DataW.trod_bool Tryz.underlying4 t2
    obtain ⟨n3, e3, -, -⟩ := DataW.trod_string Tryz.underlying9 t3
    obtain ⟨n4, e4, -⟩ := DataW.trod_bool Tryz.underlying4 t4
    obtain ⟨n5, e5, -, -⟩ := DataW.trod_string Tryz.underlying9 t5
    obtain ⟨hs, h6⟩ := hds_of t6
    simp only [List.cons.injEq, and_true] at e0 e1 e2 e3 e4 e5
    subst e0 e1 e2 e3 e4 e5
    obtain ⟨-, -, hg⟩ := World.cells?_some hc
    have g0 := hg 0 (by omega)
    have g1 := hg 1 (by omega)
    have g2 := hg 2 (by omega)
    have g3 := hg 3 (by omega)
    have g4 := hg 4 (by omega)
    have g5 := hg 5 (by omega)
    have g6 := hg 6 (by omega)
    rw [add_zero] at g0
    rw [add_off _ _ (by omega)] at g1 g2 g3 g4 g5 g6
    exact ⟨⟨n0, n1, n2, n3, n4, n5, hs⟩, v6, ⟨by simpa using g0, by simpa using g1, by simpa using g2, by simpa using g3, by simpa using g4, by simpa using g5, by simpa using g6⟩, h6⟩
  refine ⟨l, some a, cap, by rw [hll], fun k x hx => ?_⟩
  obtain ⟨hv, h1, h2⟩ := hp k x hx
  exact ⟨a, hv, rfl, trivial, h1, h2⟩
theorem bats_of {m : Nat} {v : Value} {y : DataW H × List MemPlace} (h : DataW.trod enc Tryz.prog W 0 spare held m 22 [v] = some y) : ∃ bs, BatsR (fun _ => True) W v bs ∧ ∀ b ∈ bs, (Lit.int .i64 b.prod).wf = true := by
 rcases open_slice Tryz.underlying22 h with ⟨h0, _⟩ | ⟨a, len, cap, m, n, D, Pl, h0, _, hl, _, hm, _, hel⟩
 ·injection h0 with h0 _
  exact ⟨[], ⟨none, 0, h0, fun i x hi => by simp at hi⟩, fun b hb => by cases hb⟩
 ·injection h0 with h0 _
  subst h0
  have hm' : len ≤ m := by rw [hm]; split <;> omega
  obtain ⟨l, hll, hp⟩ := list_of_lt (n := len) (p := fun i (x : Bat) => (∃ hv, BatAt W (a.add (i * 6)) x hv ∧ RecsR (fun _ => True) W hv x.recs) ∧ (Lit.int .i64 x.prod).wf = true) fun i hi => by
   obtain ⟨cs', hc, ht⟩ := hel i (by omega)
   rw [q24] at hc
   obtain ⟨xs, n', _, _, hcl, hxl, hf⟩ := DataW.trod_struct Tryz.underlying36 ht
   rw [q24] at hcl
   have hx6 : xs.length = 6 := hxl.trans (by kernel_rfl)
   clear hxl
   match cs', hcl, xs, hx6 with
   | [v0, v1, v2, v3, v4, v5], _, [y0, y1, y2, y3, y4, y5], _ =>
    have t0 := hf 0
    have t1 := hf 1
    have t2 := hf 2
    have t3 := hf 3
    have t4 := hf 4
    have t5 := hf 5
    simp [q3, q22] at t0 t1 t2 t3 t4 t5
    obtain ⟨n0, e0, -, -⟩ := DataW.trod_int Tryz.underlying3 t0
    obtain ⟨n1, e1, -, -⟩ := DataW.trod_int Tryz.underlying3 t1
    obtain ⟨n2, e2, -, w2⟩ := DataW.trod_int Tryz.underlying3 t2
    obtain ⟨n3, e3, -, -⟩ := DataW.trod_int Tryz.underlying3 t3
    obtain ⟨n4, e4, -, -⟩ := DataW.trod_int Tryz.underlying3 t4
    obtain ⟨rs, h5⟩ := recs_of t5
    simp only [List.cons.injEq, and_true] at e0 e1 e2 e3 e4
    subst e0 e1 e2 e3 e4
    obtain ⟨-, -, hg⟩ := World.cells?_some hc
    have g0 := hg 0 (by omega)
    have g1 := hg 1 (by omega)
    have g2 := hg 2 (by omega)
    have g3 := hg 3 (by omega)
    have g4 := hg 4 (by omega)
    have g5 := hg 5 (by omega)
    rw [add_zero] at g0
    rw [add_off _ _ (by omega)] at g1 g2 g3 g4 g5
    exact ⟨⟨n0, n1, n2, n3, n4, rs⟩, ⟨v5, ⟨by simpa using g0, by simpa using g1, by simpa using g2, by simpa using g3, by simpa using g4, by simpa using g5⟩, h5⟩, w2⟩
  refine ⟨l, ⟨some a, cap, by rw [hll], fun k x hx => ?_⟩, fun b hb => ?_⟩
  ·obtain ⟨⟨hv, h1, h2⟩, -⟩ := hp k x hx
   exact ⟨a, hv, rfl, trivial, h1, h2⟩
  ·obtain ⟨k, hk⟩ := List.getElem?_of_mem hb
   exact (hp k b hk).2
/-- A slice of numbers. -/
def IntsR (w : World) (v : Value) (l : List Int) : Prop := ∃ oa cap, v = .slice oa l.length cap ∧ ∀ (i : Nat) (x : Int), l[i]? = some x → ∃ a, oa = some a ∧ w.cell? (a.add i) = some (.int .i64 x) ∧ (Lit.int .i64 x).wf = true
theorem ints_of {m : Nat} {v : Value} {y : DataW H × List MemPlace} (h : DataW.trod enc Tryz.prog W 0 spare held m 49 [v] = some y) : ∃ l, IntsR W v l := by
 rcases open_slice Tryz.underlying49 h with ⟨h0, _⟩ | ⟨a, len, cap, m, n, D, Pl, h0, _, hl, _, hm, _, hel⟩
 ·injection h0 with h0 _
  exact ⟨[], none, 0, h0, fun i x hi => by simp at hi⟩
 ·injection h0 with h0 _
  subst h0
  have hm' : len ≤ m := by rw [hm]; split <;> omega
  obtain ⟨l, hll, hp⟩ := list_of_lt (n := len) (p := fun i (x : Int) => W.cell? (a.add i) = some (.int .i64 x) ∧ (Lit.int .i64 x).wf = true) fun i hi => by
   obtain ⟨cs', hc, ht⟩ := hel i (by omega)
   rw [q3] at hc
   obtain ⟨x, hx, -, wx⟩ := DataW.trod_int Tryz.underlying3 ht
   subst hx
   obtain ⟨-, -, hg⟩ := World.cells?_some hc
   have g0 := hg 0 (by omega)
   rw [add_zero, Nat.mul_one] at g0
   exact ⟨x, by simpa using g0, wx⟩
  exact ⟨l, some a, cap, by rw [hll], fun i x hx => ⟨a, rfl, (hp i x hx).1, (hp i x hx).2⟩⟩
end
end Go.Proofs.YtdlnafhhkpklmaaGreatDoor
