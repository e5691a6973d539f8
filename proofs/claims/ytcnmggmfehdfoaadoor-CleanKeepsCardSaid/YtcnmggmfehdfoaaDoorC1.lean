/- Copies: the walks. -/
import Derived.Test.YtcnmggmfehdfoaaDoorM2
import Derived.WalkKit
import Derived.Lib.SliceRun
import Derived.WalkSpells
import Derived.WalkLawsBesides
import Derived.BigQuiet
import Derived.OwnWalk
import Derived.Deep.QuietTactic
namespace Go.Proofs.YtcnmggmfehdfoaaDoor
open Go.RowKit Go.Fm Go.BigFrame
set_option linter.unusedVariables false
set_option linter.unusedSimpArgs false
set_option maxRecDepth 100000

theorem hds_none {K : Nat → Prop} {w : World} {n cap : Nat} {hs : List Hdr} (h : HdsR K w (.slice none n cap) hs) : hs = [] ∧ n = 0 := by
  obtain ⟨oa, cap', hv, h⟩ := h
  injection hv with e1 e2 e3
  subst e1
  cases hs with
  | nil => exact ⟨rfl, by simpa using e2⟩
  | cons x l =>
    obtain ⟨a, ha, -⟩ := h 0 x rfl
    cases ha
theorem hds_nil {K : Nat → Prop} (w : World) (n : Nat) : HdsR K w (.slice none 0 n) [] := ⟨none, n, rfl, fun k h hk => by simp at hk⟩
theorem hds_one {K : Nat → Prop} {w : World} {v : Value} {hs : List Hdr} (h : HdsR K w v hs) : v.oneCell' = true := by
  obtain ⟨oa, cap, rfl, -⟩ := h; rfl
theorem recs_one {K : Nat → Prop} {w : World} {v : Value} {hs : List Rec} (h : RecsR K w v hs) : v.oneCell' = true := by
  obtain ⟨oa, cap, rfl, -⟩ := h; rfl
theorem hdr_cells_one (hs : List Hdr) : ∀ u ∈ hs.flatMap hdrCells, u.oneCell' = true := by
  intro u hu
  obtain ⟨x, -, hx⟩ := List.mem_flatMap.1 hu
  simp only [hdrCells, List.mem_cons, List.not_mem_nil, or_false] at hx
  rcases hx with rfl | rfl <;> rfl

/-- New headers are handed back; what was there stands. -/
def HdsPost (w : World) (hs : List Hdr) (e : Ending) (w' : World) : Prop := ∃ v, e = .returned v ∧ HdsR (fun b => w.heap.size ≤ b) w' v hs ∧ Fr (fun _ => False) w w'
def RecPost (w : World) (r : Rec) (e : Ending) (w' : World) : Prop := ∃ hv, e = .returned (recV r hv) ∧ HdsR (fun b => w.heap.size ≤ b) w' hv r.hs ∧ Fr (fun _ => False) w w'
def RecsPost (w : World) (rs : List Rec) (e : Ending) (w' : World) : Prop := ∃ v, e = .returned v ∧ RecsR (fun b => w.heap.size ≤ b) w' v rs ∧ Fr (fun _ => False) w w'
def BatPost (w : World) (b : Bat) (e : Ending) (w' : World) : Prop := ∃ rv, e = .returned (batV b rv) ∧ RecsR (fun b => w.heap.size ≤ b) w' rv b.recs ∧ Fr (fun _ => False) w w'
def BatsPost (K : Nat → Prop) (w : World) (bs : List Bat) (e : Ending) (w' : World) : Prop := ∃ v, e = .returned v ∧ BatsR K w' v bs ∧ Fr (fun _ => False) w w'

/-- 'slices.Clone' of headers. -/
theorem clone_walk (K : Nat → Prop) (hs : List Hdr) (v : Value) (w : World) (h : HdsR K w v hs) (hl : hs.length ≤ 1000) :
    Calls Tryd.prog 20 #[v] w (HdsPost w hs) := by
  obtain ⟨i, hi, hz, h1, h2⟩ := info_parts info55
  have hh := h
  obtain ⟨oa, cap, rfl, -⟩ := hh
  cases oa with
  | none =>
    obtain ⟨rfl, -⟩ := hds_none h
    have hnil : ∀ w, (binOp .eql 37 (.slice none 0 cap) (.slice none 0 0)).run Tryd.prog w = .ok (.bool true) w := fun w => Lib.run_eql_slice_nil (P := Tryd.prog) w 37 55 none 0 cap 0 0 Tryd.underlying37
    clear h
    go_enter Tryd.func20, Tryd.ntmps20
    go_wp2_with fail
    go_ret
    exact ⟨_, rfl, hds_nil _ _, Fr.same _⟩
  | some a =>
    have hnil : ∀ w, (binOp .eql 37 (.slice (some a) hs.length cap) (.slice none 0 0)).run Tryd.prog w = .ok (.bool false) w := fun w => Lib.run_eql_slice_nil (P := Tryd.prog) w 37 55 (some a) hs.length cap 0 0 Tryd.underlying37
    have H := Lib.hid h
    obtain ⟨-, hcells⟩ := hds_cells h
    have HC := Lib.hid hcells
    have hown : (w.alloc (.cells #[] 55)).ownsRow w.heap.size 55 2 (.slice (some ⟨w.heap.size, 0, none⟩) 0 0) 0 [] :=
      ⟨rfl, .inr ⟨w.heap.size, 0, #[], rfl, Nat.le_refl _, heap_alloc_self _ _, Nat.le_refl _, Nat.zero_le _, rfl, rfl⟩⟩
    have HO := Lib.hid hown
    have hf := (Fr.same w).alloc (.cells #[] 55)
    have HF := Lib.hid hf
    clear h hcells hown hf
    go_enter Tryd.func20, Tryd.ntmps20
    go_wp2_with (at_builtin; refine wpList_append_own2 _ rfl (.tmp 5) (.tmp 6) 37 rfl w.heap.size 55 i _ 2 32 Tryd.underlying37 hi hz h1 h2 rfl (by decide) _ 0 [] rfl HO.out a hs.length cap (hs.flatMap hdrCells) rfl (flat_len hdrCells 2 hdr_n hs) ?c1 (hdr_cells_one hs) ?c3 ?c4 HF.out.size ?_)
    case c1 => exact fun j u hj => HF.out.cel (HC.out j u hj)
    case c3 => unfold maxLen; omega
    case c4 => omega
    intro v' w' ho hg hb
    have hfr : Fr (fun _ => False) w w' := HF.out.grown hg fun k hk => .inr (by simp [Value.ownBlock] at hk; omega)
    have hr := hds_of_own ho rfl
    have HR := Lib.hid hr
    have HF2 := Lib.hid hfr
    clear ho hg hb hfr hr
    go_wp2_with fail
    go_ret
    exact ⟨_, rfl, HR.out.mono fun b hb _ => hb.1, HF2.out⟩

theorem append_none (t e : TypeId) (i : TypeInfo) (ht : Tryd.prog.underlying t = some (.slice e)) (hi : Tryd.prog.info? e = some i) (ty : TypeId) (c : Nat) (w : World) :
    (Builtin.append_ #[t, t] ty #[.slice none 0 0, .slice none 0 c]).run Tryd.prog w = .ok (.slice none 0 0) w := by
  simp [Builtin.append_, run_underlying ht, sizeOf, typeInfo, hi, Builtin.lenOf, Builtin.firstCells]

/-- A record's copy. -/
theorem copy_rec (K : Nat → Prop) (r : Rec) (hv : Value) (w : World) (h : HdsR K w hv r.hs) (hl : r.hs.length ≤ 1000) :
    Calls Tryd.prog 29 #[recV r hv] w (RecPost w r) := by
  obtain ⟨i, hi, hz, h1, h2⟩ := info_parts info55
  have hh := h
  obtain ⟨oa, cap, rfl, -⟩ := hh
  unfold recV
  have hf : ∀ cells1 cells2 cells3 : Array Value, Fr (fun _ => False) w (((w.alloc (.cells cells1 39)).alloc (.cells cells2 39)).alloc (.cells cells3 39)) := fun _ _ _ => (((Fr.same w).alloc _).alloc _).alloc _
  cases oa with
  | none =>
    obtain ⟨e0, -⟩ := hds_none h
    have e1 : r.hs.length = 0 := by rw [e0]; rfl
    have happ := fun w => append_none 37 55 i Tryd.underlying37 hi 37 cap w
    have E0 := Lib.hid e0
    have HF := Lib.hid hf
    clear h e0 hf
    rw [e1]
    go_enter Tryd.func29, Tryd.ntmps29
    go_wp2_with fail
    refine bodyPost_ret (v := recV r (.slice none 0 0)) (by simp [results, Tryd.f29, go_sem, recV]) rfl ⟨_, rfl, ?_, ?_⟩
    · rw [E0.out]; exact hds_nil _ _
    · exact HF.out _ _ _
  | some a =>
    obtain ⟨-, hcells⟩ := hds_cells h
    have HC := Lib.hid hcells
    have HF := Lib.hid hf
    clear h hcells hf
    go_enter Tryd.func29, Tryd.ntmps29
    go_wp2_with (at_builtin; refine wpList_append_own2 _ rfl (.tmp 7) (.tmp 9) 37 rfl w.heap.size 55 i _ 2 32 Tryd.underlying37 hi hz h1 h2 rfl (by decide) _ 0 [] rfl (World.ownsRow_nil _ _ _ _) a r.hs.length cap (r.hs.flatMap hdrCells) rfl (flat_len hdrCells 2 hdr_n r.hs) ?c1 (hdr_cells_one r.hs) ?c3 ?c4 (HF.out _ _ _).size ?_)
    case c1 => exact fun j u hj => (HF.out _ _ _).cel (HC.out j u hj)
    case c3 => unfold maxLen; omega
    case c4 => omega
    intro v' w' ho hg hb
    have hfr : Fr (fun _ => False) w w' := (HF.out _ _ _).grown hg fun k hk => .inr (by simp [Value.ownBlock] at hk)
    have hr := hds_of_own ho (by simp)
    have k2 : w'.heap[w.heap.size + 1 + 1]? = some (.cells #[.int .i64 r.at', .int .i64 r.tm, .bool r.bare, .string r.key, .bool r.gone, .string r.val, .slice none 0 0] 39 (0, 0)) :=
      (hg.block _ (by simp) (by simp [Value.ownBlock])).trans (by simpa using heap_alloc_self ((w.alloc _).alloc _) _)
    have k1 : w'.heap[w.heap.size + 1]? = some (.cells #[.int .i64 0, .int .i64 0, .bool false, .string ⟨#[]⟩, .bool false, .string ⟨#[]⟩, .slice none 0 0] 39 (0, 0)) :=
      (hg.block _ (by simp) (by simp [Value.ownBlock])).trans ((heap_alloc_lt _ (by simp)).trans (by simpa using heap_alloc_self (w.alloc _) _))
    have f2 : ∀ j, w'.frozen? ⟨w.heap.size + 1 + 1, j, none⟩ = false := by intro j; simp [World.frozen?, k2]
    have f1 : ∀ j, w'.frozen? ⟨w.heap.size + 1, j, none⟩ = false := by intro j; simp [World.frozen?, k1]
    have d2 : ∀ j, w'.cell? ⟨w.heap.size + 1 + 1, j, none⟩ = (#[.int .i64 r.at', .int .i64 r.tm, .bool r.bare, .string r.key, .bool r.gone, .string r.val, .slice none 0 0] : Array Value)[j]? := by intro j; simp [World.cell?, k2]
    have d1 : ∀ j, w'.cell? ⟨w.heap.size + 1, j, none⟩ = (#[.int .i64 0, .int .i64 0, .bool false, .string ⟨#[]⟩, .bool false, .string ⟨#[]⟩, .slice none 0 0] : Array Value)[j]? := by intro j; simp [World.cell?, k1]
    have HR := Lib.hid hr
    have HF2 := Lib.hid hfr
    have HB := Lib.hid hb
    clear ho hfr hr hb hg k1 k2
    obtain ⟨oa', cap', rfl, -⟩ := HR.out
    go_wp2_with fail
    refine bodyPost_ret (v := recV r (.slice oa' r.hs.length cap')) (by simp [results, Tryd.f29, go_sem, recV, d1]) rfl ⟨_, rfl, ?_, ?_⟩
    · refine (HR.out.fr (S := fun k => k = w.heap.size + 1 ∨ k = w.heap.size + 1 + 1) ?_ ?_).mono fun b hb _ => hb.1
      · repeat' (refine Fr.setCell ?_ (.inl (by simp)) _)
        exact Fr.refl _ _
      · intro k hk
        have h9 := hk.2
        rcases HB.out with h | h
        · rw [h9] at h; simp [Value.ownBlock] at h
        · rw [h9] at h; injection h with h; omega
    · repeat' (refine Fr.setCell ?_ (.inr (by simp; try omega)) _)
      exact HF2.out
end Go.Proofs.YtcnmggmfehdfoaaDoor
