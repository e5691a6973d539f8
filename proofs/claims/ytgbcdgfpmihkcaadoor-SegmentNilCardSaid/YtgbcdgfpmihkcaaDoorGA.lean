/- The example batches; Open of a disk that is none: walks and laws. -/
import Derived.Test.YtgbcdgfpmihkcaaDoorG9
import Derived.Test.YtgbcdgfpmihkcaaDoorSo
namespace Go.Proofs.YtgbcdgfpmihkcaaDoor
open Go.RowKit Go.Fm Go.BigFrame Go.Shelf Go.Maps
set_option linter.unusedVariables false
set_option linter.unusedSimpArgs false
set_option maxRecDepth 100000

def kS : ByteArray := ⟨#[107]⟩
def vS : ByteArray := ⟨#[118]⟩
def aS : ByteArray := ⟨#[97]⟩
def exR (n : Int) : Rec := ⟨0, n, false, kS, false, vS, []⟩
def exB (n : Int) : Bat := ⟨n, 1, -1, -1, -1, [exR n]⟩
theorem exR_ok {n : Int} (h0 : 0 ≤ n) (h1 : n ≤ 1000) : RecOK (exR n) := by
  constructor <;> simp [exR, kS, vS, ByteArray.size] <;> omega
theorem putS_pos (n : Int) : 1 ≤ (putS n).size := by rw [putS_len]; exact putL_pos _
theorem exR_size {n : Int} (h0 : 0 ≤ n) (h1 : n ≤ 1000) : (encS (exR n)).size ≤ 3000 := by
  have := encTo_size (exR_ok h0 h1) 0 (Nat.zero_le _)
  simpa [encS, exR] using this
theorem exB_body {n : Int} (h0 : 0 ≤ n) (h1 : n ≤ 1000) : 6 ≤ (bodyS (exB n)).size ∧ (bodyS (exB n)).size ≤ 3060 := by
  have hr := exR_size h0 h1
  have w1 : (Lit.int .i64 n).wf = true := by simp [Lit.wf, IntKind.min, IntKind.max, IntKind.signed, IntKind.bits]; omega
  have a1 := putS_size w1
  have a2 := putS_size (n := 1) (by decide)
  have a3 := putS_size (n := -1) (by decide)
  have b1 := putS_pos n
  have b2 := putS_pos 1
  have b3 := putS_pos (-1)
  have e : bodyS (exB n) = putS n ++ putS 1 ++ putS (-1) ++ putS (-1) ++ putS (-1) ++ putS 1 ++ encS (exR n) := rfl
  rw [e]
  simp only [ByteArray.size_append]
  omega
theorem exB_ok {n : Int} (h0 : 0 ≤ n) (h1 : n ≤ 1000) : BatOK (exB n) := by
  have hb := exB_body h0 h1
  refine { base0 := h0, base1 := by show n ≤ _; omega, span0 := by show (1 : Int) ≤ 1; omega, span1 := by show (1 : Int) ≤ 50; omega, who := .inl ⟨rfl, rfl, rfl⟩, len := by simp [exB], recs := fun k r hk => ?_, body := by omega }
  cases k with
  | zero =>
    simp [exB] at hk
    subst hk
    exact ⟨exR_ok h0 h1, by show (0 : Int) < 1; omega, by show (-1 : Int) < 0; omega⟩
  | succ k => simp [exB] at hk
theorem exB_bsz {n : Int} (h0 : 0 ≤ n) (h1 : n ≤ 1000) : 14 ≤ bsz (exB n) ∧ bsz (exB n) ≤ 3068 := by
  have := exB_body h0 h1
  unfold bsz
  rw [batS_size]
  omega
def ExPost (n : Int) (w : World) (e : Ending) (w' : World) : Prop := ∃ rv, e = .returned (batV (exB n) rv) ∧ RecsR (fun b => w.heap.size ≤ b) w' rv (exB n).recs ∧ Fr (fun _ => False) w w'
theorem simple_walk (n : Int) (w : World) : Calls Tryd.prog 15 #[.int .i64 n] w (ExPost n w) := by
  go_enter Tryd.func15, Tryd.ntmps15
  go_wp2_with fail
  refine bodyPost_ret (v := batV (exB n) (.slice (some ⟨w.heap.size + 1, 0, none⟩) 1 1)) (by simp [results, Tryd.f15, go_sem, batV, exB]) rfl ⟨_, rfl, ?_, ((Fr.same w).alloc _).alloc _⟩
  have hs : (w.alloc (.cells #[.int .i64 n, .int .i64 1, .int .i64 (-1), .int .i64 (-1), .int .i64 (-1), .slice (some ⟨w.heap.size + 1, 0, none⟩) 1 1] 24)).heap.size = w.heap.size + 1 := by simp
  generalize (w.alloc (.cells #[.int .i64 n, .int .i64 1, .int .i64 (-1), .int .i64 (-1), .int .i64 (-1), .slice (some ⟨w.heap.size + 1, 0, none⟩) 1 1] 24)) = W at hs ⊢
  refine ⟨_, _, rfl, fun k r hk => ?_⟩
  cases k with
  | zero =>
    simp [exB] at hk
    subst hk
    have hc := cell_alloc_new W #[.int .i64 0, .int .i64 n, .bool false, .string kS, .bool false, .string vS, .slice none 0 0] 44
    rw [hs] at hc
    exact ⟨⟨w.heap.size + 1, 0, none⟩, .slice none 0 0, rfl, Nat.le_succ _, ⟨hc 0, hc 1, hc 2, hc 3, hc 4, hc 5, hc 6⟩, hds_nil _ _⟩
  | succ k => simp [exB] at hk
theorem sopen_nil (nm : ByteArray) (base every : Int) (w : World) : Calls Tryd.prog 6 #[.pointer none, .string nm, .int .i64 base, .int .i64 every] w fun e w' => e = .returned (.tuple #[.pointer none, .int .i64 1]) ∧ Fr (fun _ => False) w w' := by
  by_cases h : 1 ≤ every ∧ every ≤ 1000000
  · obtain ⟨h1, h2⟩ := h
    go_enter Tryd.func6, Tryd.ntmps6
    go_wp2_with fail
    refine (new_walk every w h1 h2).mono ?_
    rintro e w' ⟨rfl, rfl⟩
    have hf := (Fr.same w).alloc (.cells #[.int .i64 every, .slice none 0 0, .slice none 0 0, .bool false, .complex .f64 0 0, .int .i64 0] 88)
    go_wp2_with fail
    go_ret2
    exact ⟨rfl, hf⟩
  · go_enter Tryd.func6, Tryd.ntmps6
    go_wp2_with fail
    refine (new_no every w (by omega)).mono ?_
    rintro e w' ⟨rfl, rfl⟩
    go_wp2_with fail
    go_ret2
    exact ⟨rfl, Fr.same _⟩
end Go.Proofs.YtgbcdgfpmihkcaaDoor
