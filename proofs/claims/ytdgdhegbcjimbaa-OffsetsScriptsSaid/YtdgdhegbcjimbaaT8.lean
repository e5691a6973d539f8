/- slices.AppendSeq over a map's keys, maps.Keys, slices.Collect: the walks. -/
import Derived.Test.YtdgdhegbcjimbaaT7
namespace Go.Proofs.Ytdgdhegbcjimbaa
open Go.RowKit Go.Fm Go.BigFrame Go.Maps Go.Shelf
set_option linter.unusedVariables false
set_option linter.unusedSimpArgs false

theorem info36 : (Try.prog.info? 36).map (fun i => (i.zero, i.size, i.bytes)) = some (some (.agg #[.string ⟨#[]⟩, .string ⟨#[]⟩, .int .i64 0]), 3, 40) := by kernel_rfl
def keyC (k : Key) : List Value := [.string k.g, .string k.t, .int .i64 k.i]
theorem keyC_len (k : Key) : (keyC k).length = 3 := rfl
theorem flat_len (ss : List Key) : (ss.flatMap keyC).length = ss.length * 3 := by
  induction ss with
  | nil => rfl
  | cons x r ih => simp [keyC_len, ih]; omega
theorem key_new (w : World) (k : Key) (t : TypeId) : ∀ j u, ([.string k.g, .string k.t, .int .i64 k.i] : List Value)[j]? = some u → (w.alloc (.cells #[.string k.g, .string k.t, .int .i64 k.i] t)).cell? ((⟨w.heap.size, 0, none⟩ : Addr).add j) = some u := by
  intro j u hj
  match j, hj with
  | 0, hj => simp at hj; subst hj; simp [Addr.add, cell_alloc_new]
  | 1, hj => simp at hj; subst hj; simp [Addr.add, cell_alloc_new]
  | 2, hj => simp at hj; subst hj; simp [Addr.add, cell_alloc_new]
/-- The loop variable's box. -/
def KeyBox (B : Nat) (sv bs : Value) (k : Key) (a : Act) (W : World) : Prop :=
  ∃ Bx, B ≤ Bx ∧ W.heap[Bx]? = some (.cells #[.string k.g, .string k.t, .int .i64 k.i] 36 (0, 0)) ∧
    a = { tmps := #[.slice none 0 0, sv, bs, undef, .slice none 0 0, .pointer (some ⟨Bx, 0, none⟩), sv, keyV k, undef, undef, undef, undef, undef], defers := [] }
set_option maxRecDepth 100000 in
set_option maxHeartbeats 4000000 in
theorem append_walk (Bm b : Nat) (L : List Row) (w : World) (hBm : Bm < w.heap.size) (hm : w.cell? ⟨Bm, 0, none⟩ = some (.map (some b))) (ht : TabM w b L) (hlen : L.length ≤ 10000) :
    CallsIn Fence.wide 3 Try.prog 56 #[.slice none 0 0, .func (.func 42) #[] #[.pointer (some ⟨Bm, 0, none⟩)]] w fun e w' => ∃ (v : Value) (ss : List Key), e = .returned v ∧ ss.Perm (L.map (·.1)) ∧
      w'.ownsRow w.heap.size 36 3 v ss.length (ss.flatMap keyC) ∧ (v = .slice none 0 0 ↔ ss = []) ∧ Below w.heap.size w w' := by
  obtain ⟨i0, hi, hz0, hz1, hz2⟩ := info_parts info36
  have HI := Lib.hid hi
  refine callsIn_of_wp_marks Try.func56 rfl trivial ?_ rfl
  simp only [Try.ntmps56, List.size_toArray, List.length_cons, List.length_nil, Nat.reduceAdd, Nat.reduceSub, Array.replicate_succ, Array.replicate_zero, List.push_toArray, List.append_toArray, List.nil_append, List.cons_append]
  gi_wp2
  have bO := Boxed.new w 43 (.slice none 0 0)
  have hB0 : Below w.heap.size w (w.alloc (.cells #[.slice none 0 0] 43)) := (Below.refl _ w).alloc (Nat.le_refl _) _
  have hst := keys_stops 2 (by omega) Bm b L _ (Nat.lt_of_lt_of_le hBm hB0.size) ((hB0.cell (p := ⟨Bm, 0, none⟩) hBm).trans hm) (ht.to (hB0.block b ht.lt))
  refine wpIn_rangeFunc_ownH rfl (by omega) (gf := 42) (lb := #[.pointer (some ⟨Bm, 0, none⟩)]) rfl trivial (enters_of Try.func42 (by kernel_rfl) rfl)
    hst walksK_t walksK_b (Below.refl _ _) (fun _ => rfl)
    (fun pre W => (∃ v, Boxed W w.heap.size 43 v ∧ W.ownsRow w.heap.size 36 3 v pre.length (pre.flatMap keyC) ∧ (v = .slice none 0 0 ↔ pre = [])) ∧ Below w.heap.size w W)
    (fun _ _ _ => False)
    (OwnFrom.and (Own.from (holdsRow_own w.heap.size w.heap.size 43 36 3 (fun pre => pre.length) (fun pre => pre.flatMap keyC) (fun pre v => v = .slice none 0 0 ↔ pre = [])) _) (ownFrom_below (Nat.le_refl _) (by simp)))
    (fun _ _ _ _ _ hs _ _ => hs)
    ⟨⟨_, bO, World.ownsRow_nil _ _ _ _, by simp⟩, hB0⟩
    (KeyBox (w.heap.size + 1) (.func (.func 42) #[] #[.pointer (some ⟨Bm, 0, none⟩)]) (.pointer (some ⟨w.heap.size, 0, none⟩)))
    ?ax ?assign ?body ?done ?stop
  case ax =>
    rintro k a' _ A B row ⟨Bx, h1, h2, h3⟩ hg hr
    refine ⟨Bx, h1, (hg.block Bx (lt_of_heap h2) fun e => ?_).trans h2, h3⟩
    obtain ⟨-, o, ho, hc⟩ := hr Bx e.symm
    rw [h2] at ho; cases ho; cases hc
  case assign =>
    rintro l pre x W K ⟨⟨v, hv, hrow, hnil⟩, hB⟩ hK
    unfold keyV
    gi_wp2_with (rw [Oper.semAt_eq _ _ _ (fun c h => by cases h)]; go_simp; try go_bits)
    exact hK _ _ ((KeepsOthers.alloc _ _).from _) (KeepsWalks.alloc _ _) ⟨⟨v, hv.alloc _, hrow.alloc _, hnil⟩, hB.alloc hB.size _⟩
      ⟨W.heap.size, hv.lt, heap_alloc_self W _, rfl⟩
  case body =>
    rintro l pre x a' W hl hr ⟨⟨v, hv, hrow, hnil⟩, hB⟩ ⟨Bx, hBx, hbx, rfl⟩ hlt
    have hc := hv.cell
    have c0 := (cell_of hbx 0).trans rfl
    have c1 := (cell_of hbx 1).trans rfl
    have c2 := (cell_of hbx 2).trans rfl
    simp at c0 c1 c2
    clear hbx hst ht hm bO hi
    unfold keyV
    gi_wp2_with (first
      | (gi_at_builtin; refine wpListIn_append_own _ rfl _ _ 43 rfl w.heap.size 36 i0 (.agg #[.string ⟨#[]⟩, .string ⟨#[]⟩, .int .i64 0]) 3 40 Try.underlying43 HI.out hz0 hz1 hz2 rfl (by decide) _ _ _ rfl (hrow.alloc _) ⟨W.heap.size, 0, none⟩ 1 1 [.string x.g, .string x.t, .int .i64 x.i] rfl rfl (key_new _ _ _) (by simp [Value.oneCell']) (by unfold maxLen; omega) (by omega) (by have := hB.size; simp; omega) ?_; intro v' w1 hown' hgrow _; obtain ⟨g', cap', rfl⟩ := ownsRow_succ hown'; obtain ⟨hv1, hv2, hr2, hk2, hb2⟩ := hv.appended (by decide) hrow hB.size (Nat.le_refl _) hown' hgrow; have hc1 := hv1.cell; have hf1 := hv1.frozen)
      | (rw [Oper.semAt_eq _ _ _ (fun c h => by cases h)]; go_simp; try go_bits))
    exact ⟨hk2.from _, ⟨hk2.size, fun k o h1 h2 => hk2.same k o h1 (Obj.not_cells_of_walk h2)⟩, ⟨_, hv2, by simpa [keyC] using hr2, by simp⟩, hB.trans hb2⟩
  case done =>
    rintro D ys W hD hS ⟨⟨v, hv, hrow, hnil⟩, hB⟩ hK
    have hc := hv.cell
    gi_wp2
    refine ⟨by simp, .inl ⟨_, _, rfl, run_takeDeferred hK, ?_⟩⟩
    exact ⟨_, results_tmp rfl _ _ _, v, ys, rfl, hS, ownsRow_putObj hrow _ hK rfl, hnil, hB.trans (belowK_b (w := w) (Nat.le_refl _) W D _ _ (by simp at hD; omega) hK rfl rfl)⟩
  case stop =>
    rintro D c pre W _ _ h _
    exact h.elim
theorem keysSeq_walk (mb : Nat) (w : World) : Calls Try.prog 25 #[.map (some mb)] w fun e w' => e = .returned (.func (.func 42) #[] #[.pointer (some ⟨w.heap.size, 0, none⟩)]) ∧ w' = w.alloc (.cells #[.map (some mb)] 56) := by
  go_enter Try.func25, Try.ntmps25
  go_wp2_with fail
  go_ret
  exact ⟨rfl, rfl⟩
def CollectPost (L : List Row) (w : World) (e : Ending) (w' : World) : Prop :=
  ∃ (v : Value) (ss : List Key), e = .returned v ∧ ss.Perm (L.map (·.1)) ∧ w'.ownsRow w.heap.size 36 3 v ss.length (ss.flatMap keyC) ∧ (v = .slice none 0 0 ↔ ss = []) ∧ Below w.heap.size w w'
theorem collect_walk (Bm b : Nat) (L : List Row) (w : World) (hBm : Bm < w.heap.size) (hm : w.cell? ⟨Bm, 0, none⟩ = some (.map (some b))) (ht : TabM w b L) (hlen : L.length ≤ 10000) :
    Calls Try.prog 40 #[.func (.func 42) #[] #[.pointer (some ⟨Bm, 0, none⟩)]] w (CollectPost L w) := by
  have hcall := callsIn_wide.1 (append_walk Bm b L w hBm hm ht hlen)
  have HC := Lib.hid hcall
  clear hcall hm ht
  go_enter Try.func40, Try.ntmps40
  go_wp2_with fail
  refine HC.out.mono ?_
  rintro e w' ⟨v, ss, rfl, h1, h2, h3, h4⟩
  have H1 := Lib.hid h1
  have H2 := Lib.hid h2
  have H3 := Lib.hid h3
  have H4 := Lib.hid h4
  clear h1 h2 h3 h4
  go_wp2_with fail
  go_ret
  exact ⟨v, ss, rfl, H1.out, H2.out, H3.out, H4.out⟩
end Go.Proofs.Ytdgdhegbcjimbaa
