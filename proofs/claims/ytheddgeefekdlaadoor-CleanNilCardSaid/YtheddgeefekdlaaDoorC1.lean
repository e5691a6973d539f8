/- Copies: the walks. -/
import Derived.Test.YtheddgeefekdlaaDoorM2
import Derived.WalkKit
import Derived.Lib.SliceRun
import Derived.WalkSpells
import Derived.WalkLawsBesides
import Derived.BigQuiet
import Derived.OwnWalk
import Derived.Deep.QuietTactic
namespace Go.Proofs.YtheddgeefekdlaaDoor
open Go.RowKit Go.Fm Go.BigFrame
set_option linter.unusedVariables false
set_option linter.unusedSimpArgs false
set_option maxRecDepth 100000

theorem hds_none {K : Nat → Prop} {w : World} {n cap : Nat} {hs : List Hdr} (h : HdsR K w (.slice none n cap) hs) : hs = [] ∧ n = 0 := by
  obtain ⟨oa, cap', hv, h⟩ := h
  injection hv with e1 e2 e3
  subst e1
  cases hs with
  | nil => exact ⟨rfl, by simpa using e2⟩
  | cons x l =>
    obtain ⟨a, ha, -⟩ := h 0 x rfl
    cases ha
theorem hds_nil {K : Nat → Prop} (w : World) (n : Nat) : HdsR K w (.slice none 0 n) [] := ⟨none, n, rfl, fun k h hk => by simp at hk⟩
theorem hds_one {K : Nat → Prop} {w : World} {v : Value} {hs : List Hdr} (h : HdsR K w v hs) : v.oneCell' = true := by
  obtain ⟨oa, cap, rfl, -⟩ := h; rfl
theorem recs_one {K : Nat → Prop} {w : World} {v : Value} {hs : List Rec} (h : RecsR K w v hs) : v.oneCell' = true := by
  obtain ⟨oa, cap, rfl, -⟩ := h; rfl
theorem hdr_cells_one (hs : List Hdr) : ∀ u ∈ hs.flatMap hdrCells, u.oneCell' = true := by
  intro u hu
  obtain ⟨x, -, hx⟩ := List.mem_flatMap.1 hu
  simp only [hdrCells, List.mem_cons, List.not_mem_nil, or_false] at hx
  rcases hx with rfl | rfl <;> rfl

/-- New headers are handed back; what was there stands. -/
def HdsPost (w : World) (hs : List Hdr) (e : Ending) (w' : World) : Prop := ∃ v, e = .returned v ∧ HdsR (fun b => w.heap.size ≤ b) w' v hs ∧ Fr (fun _ => False) w w'
def RecPost (w : World) (r : Rec) (e : Ending) (w' : World) : Prop := ∃ hv, e = .returned (recV r hv) ∧ HdsR (fun b => w.heap.size ≤ b) w' hv r.hs ∧ Fr (fun _ => False) w w'
def RecsPost (w : World) (rs : List Rec) (e : Ending) (w' : World) : Prop := ∃ v, e = .returned v ∧ RecsR (fun b => w.heap.size ≤ b) w' v rs ∧ Fr (fun _ => False) w w'
def BatPost (w : World) (b : Bat) (e : Ending) (w' : World) : Prop := ∃ rv, e = .returned (batV b rv) ∧ RecsR (fun b => w.heap.size ≤ b) w' rv b.recs ∧ Fr (fun _ => False) w w'
def BatsPost (K : Nat → Prop) (w : World) (bs : List Bat) (e : Ending) (w' : World) : Prop := ∃ v, e = .returned v ∧ BatsR K w' v bs ∧ Fr (fun _ => False) w w'

/-- 'slices.Clone' of headers. -/
theorem clone_walk (K : Nat → Prop) (hs : List Hdr) (v : Value) (w : World) (h : HdsR K w v hs) (hl : hs.length ≤ 1000) :
    Calls Tryd.prog 19 #[v] w (HdsPost w hs) := by
  obtain ⟨i, hi, hz, h1, h2⟩ := info_parts info55
  have hh := h
  obtain ⟨oa, cap, rfl, -⟩ := hh
  cases oa with
  | none =>
    obtain ⟨rfl, -⟩ := hds_none h
    have hnil : ∀ w, (binOp .eql 46 (.slice none 0 cap) (.slice none 0 0)).run Tryd.prog w = .ok (.bool true) w := fun w => Lib.run_eql_slice_nil (P := Tryd.prog) w 46 67 none 0 cap 0 0 Tryd.underlying46
    clear h
    go_enter Tryd.func19, Tryd.ntmps19
    go_wp2_with fail
    go_ret
    exact ⟨_, rfl, hds_nil _ _, Fr.same _⟩
  | some a =>
    have hnil : ∀ w, (binOp .eql 46 (.slice (some a) hs.length cap) (.slice none 0 0)).run Tryd.prog w = .ok (.bool false) w := fun w => Lib.run_eql_slice_nil (P := Tryd.prog) w 46 67 (some a) hs.length cap 0 0 Tryd.underlying46
    have H := Lib.hid h
    obtain ⟨-, hcells⟩ := hds_cells h
    have HC := Lib.hid hcells
    have hown : (w.alloc (.cells #[] 67)).ownsRow w.heap.size 67 2 (.slice (some ⟨w.heap.size, 0, none⟩) 0 0) 0 [] :=
      ⟨rfl, .inr ⟨w.heap.size, 0, #[], rfl, Nat.le_refl _, heap_alloc_self _ _, Nat.le_refl _, Nat.zero_le _, rfl, rfl⟩⟩
    have HO := Lib.hid hown
    have hf := (Fr.same w).alloc (.cells #[] 67)
    have HF := Lib.hid hf
    clear h hcells hown hf
    go_enter Tryd.func19, Tryd.ntmps19
    go_wp2_with (at_builtin; refine wpList_append_own2 _ rfl (.tmp 5) (.tmp 6) 46 rfl w.heap.size 67 i _ 2 32 Tryd.underlying46 hi hz h1 h2 rfl (by decide) _ 0 [] rfl HO.out a hs.length cap (hs.flatMap hdrCells) rfl (flat_len hdrCells 2 hdr_n hs) ?c1 (hdr_cells_one hs) ?c3 ?c4 HF.out.size ?_)
    case c1 => exact fun j u hj => HF.out.cel (HC.out j u hj)
    case c3 => unfold maxLen; omega
    case c4 => omega
    intro v' w' ho hg hb
    have hfr : Fr (fun _ => False) w w' := HF.out.grown hg fun k hk => .inr (by simp [Value.ownBlock] at hk; omega)
    have hr := hds_of_own ho rfl
    have HR := Lib.hid hr
    have HF2 := Lib.hid hfr
    clear ho hg hb hfr hr
    go_wp2_with fail
    go_ret
    exact ⟨_, rfl, HR.out.mono fun b hb _ => hb.1, HF2.out⟩

end Go.Proofs.YtheddgeefekdlaaDoor
