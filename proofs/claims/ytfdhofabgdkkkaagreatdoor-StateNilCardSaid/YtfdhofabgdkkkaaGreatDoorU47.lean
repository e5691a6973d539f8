/- Small: the walk. -/
import Derived.Test.YtfdhofabgdkkkaaGreatDoorU38
namespace Go.Proofs.YtfdhofabgdkkkaaGreatDoor
open Go.RowKit Go.Fm Go.BigFrame
set_option linter.unusedVariables false
set_option linter.unusedSimpArgs false
theorem take_snoc' {α : Type} {l : List α} {k : Nat} {x : α} (h : l[k]? = some x) : l.take (k + 1) = l.take k ++ [x] := by
 rw [List.take_add_one, h]; rfl
def hdrW (h : Hdr) : Nat := h.key.size + h.val.size
def hdrsW (hs : List Hdr) : Nat := (hs.map hdrW).sum
def recW (r : Rec) : Nat := r.key.size + r.val.size + hdrsW r.hs
def recsW (rs : List Rec) : Nat := (rs.map recW).sum
def OkH (h : Hdr) : Prop := h.key.size ≤ 3000 ∧ h.val.size ≤ 3000
def OkR (r : Rec) : Prop := r.hs.length ≤ 12 ∧ r.key.size ≤ 3000 ∧ r.val.size ≤ 3000 ∧ ∀ h ∈ r.hs, OkH h
structure SmallB (b : Bat) : Prop where
 len : b.recs.length ≤ 50
 recs : ∀ r ∈ b.recs, OkR r
 weight : recsW b.recs ≤ 3000
theorem hdrsW_snoc (l : List Hdr) (x : Hdr) : hdrsW (l ++ [x]) = hdrsW l + hdrW x := by simp [hdrsW]
theorem recsW_snoc (l : List Rec) (x : Rec) : recsW (l ++ [x]) = recsW l + recW x := by simp [recsW]
/-- A bool is handed back; if it is true, P. -/
def AskPost (P : Prop) (w : World) (e : Ending) (w' : World) : Prop := ∃ c : Bool, e = .returned (.bool c) ∧ (c = true → P) ∧ Fr (fun _ => False) w w'
set_option maxRecDepth 100000 in
set_option maxHeartbeats 8000000 in
theorem small_walk (K : Nat → Prop) (b : Bat) (v : Value) (w : World) (h : RecsR K w v b.recs) :
  Calls Tryz.prog 13 #[batV b v] w (AskPost (SmallB b) w) := by
 obtain ⟨oa, cap, rfl, h⟩ := h
 have H := Lib.hid h
 clear h
 have hf0 := (Fr.same w).alloc (.cells (batCells b (.slice oa b.recs.length cap)).toArray 35)
 have hb5 : (w.alloc (.cells (batCells b (.slice oa b.recs.length cap)).toArray 35)).cell? ⟨w.heap.size, 5, none⟩ = some (.slice oa b.recs.length cap) := cell_alloc_new w _ 35 5
 unfold batCells at hf0 hb5
 unfold batV
 rcases Nat.lt_or_ge 50 b.recs.length with hbig | hlen
 ·go_enter Tryz.func13, Tryz.ntmps13
  go_wp2_with fail
  go_ret
  exact ⟨false, rfl, by simp, hf0⟩
 ·go_enter Tryz.func13, Tryz.ntmps13
  go_wp2_with fail
  generalize (w.alloc (.cells #[.int .i64 b.base, .int .i64 b.span, .int .i64 b.prod, .int .i64 b.epoch, .int .i64 b.seq, .slice oa b.recs.length cap] 35)) = W at *
  have F0 := Lib.hid hf0
  have B5 := Lib.hid hb5
  clear hf0 hb5
  go_loopw [3, 4] (fun n i wr => ∃ k m : Nat, i = .int .i64 k ∧ n = .int .i64 m ∧ k ≤ b.recs.length ∧ m = recsW (b.recs.take k) ∧ m ≤ 3000 ∧ (∀ r ∈ b.recs.take k, OkR r) ∧ Fr (fun _ => False) W wr) (fun _ i _ => b.recs.length - (intOf i).toNat)
  case atStart => exact ⟨0, 0, rfl, rfl, Nat.zero_le _, by simp [recsW], by omega, by simp, Fr.same _⟩
  case round =>
   obtain ⟨k, m, rfl, rfl, hk, hm, hm3, hok, hf⟩ := hrel
   have F := Lib.hid hf
   have HM := Lib.hid hm
   have HOK := Lib.hid hok
   have b5 := hf.cel B5.out
   clear hf hm hok
   rcases Nat.lt_or_ge k b.recs.length with hlt | hge
   ·obtain ⟨x, hx⟩ := get_of_lt hlt
    obtain ⟨a, hv, rfl, -, hc, hr⟩ := H.out k x hx
    have HX := Lib.hid hx
    have hfw := F0.out.tr F.out
    obtain ⟨c0, c1, c2, c3, c4, c5, c6⟩ := hc.to (hfw.block _ hc.lt fun h => h)
    have hr1 := hr.old hfw
    obtain ⟨ha, hcap, rfl, hh⟩ := hr1
    have HH := Lib.hid hh
    have hf1 := (Fr.same wr).alloc (.cells (recCells x (.slice ha x.hs.length hcap)).toArray 95)
    have d3 : (wr.alloc (.cells (recCells x (.slice ha x.hs.length hcap)).toArray 95)).cell? ⟨wr.heap.size, 3, none⟩ = some (.string x.key) := cell_alloc_new wr _ 95 3
    have d5 : (wr.alloc (.cells (recCells x (.slice ha x.hs.length hcap)).toArray 95)).cell? ⟨wr.heap.size, 5, none⟩ = some (.string x.val) := cell_alloc_new wr _ 95 5
    have d6 : (wr.alloc (.cells (recCells x (.slice ha x.hs.length hcap)).toArray 95)).cell? ⟨wr.heap.size, 6, none⟩ = some (.slice ha x.hs.length hcap) := cell_alloc_new wr _ 95 6
    unfold recCells at hf1 d3 d5 d6
    clear hx hc hfw hr hh
    by_cases hok : x.hs.length ≤ 12 ∧ x.key.size ≤ 3000 ∧ x.val.size ≤ 3000
    ·obtain ⟨hk1, hk2, hk3⟩ := hok
     go_wp2_with fail
     generalize (wr.alloc (.cells #[.int .i64 x.at', .int .i64 x.tm, .bool x.bare, .string x.key, .bool x.gone, .string x.val, .slice ha x.hs.length hcap] 95)) = W2 at *
     have F1 := Lib.hid hf1
     have D6 := Lib.hid d6
     clear c0 c1 c2 c3 c4 c5 c6 d3 d5 d6 b5 hf1
     go_loopw [3, 6] (fun n i wr => ∃ q p : Nat, i = .int .i64 q ∧ n = .int .i64 p ∧ q ≤ x.hs.length ∧ p = m + x.key.size + x.val.size + hdrsW (x.hs.take q) ∧ p ≤ 9000 ∧ (∀ h ∈ x.hs.take q, OkH h) ∧ Fr (fun _ => False) W2 wr) (fun _ i _ => x.hs.length - (intOf i).toNat)
     case atStart => exact ⟨0, m + x.key.size + x.val.size, rfl, by go_num, Nat.zero_le _, by simp [hdrsW], by omega, by simp, Fr.same _⟩
     case round =>
      obtain ⟨q, p, rfl, rfl, hq, hp, hp9, hoh, hf⟩ := hrel
      have G := Lib.hid hf
      have HP := Lib.hid hp
      have HOH := Lib.hid hoh
      have d6 := hf.cel D6.out
      clear hf hp hoh
      by_cases hcond : q < x.hs.length ∧ p ≤ 3000
      ·obtain ⟨hq1, hp1⟩ := hcond
       obtain ⟨y, hy⟩ := get_of_lt hq1
       obtain ⟨a2, rfl, -, e0, e1⟩ := HH.out q y hy
       have HY := Lib.hid hy
       have e0 := G.out.cel (F1.out.cel e0)
       have e1 := G.out.cel (F1.out.cel e1)
       clear hy
       by_cases hoy : y.key.size ≤ 3000 ∧ y.val.size ≤ 3000
       ·obtain ⟨hy1, hy2⟩ := hoy
        go_wp2_with fail
        go_quiet (fail)
        have G2 := Lib.hid (G.out.drewN nq)
        clear e0 e1 d6
        generalize wr.drewN nq = wr2 at *
        go_wp2_with fail
        go_roundw
        case rel =>
         refine ⟨q + 1, p + y.key.size + y.val.size, by go_num, by go_num, by omega, ?_, by omega, ?_, G2.out⟩
         ·rw [take_snoc' HY.out, hdrsW_snoc, HP.out]; simp only [hdrW]; omega
         ·intro h hh
          rw [take_snoc' HY.out] at hh
          rcases List.mem_append.1 hh with h1 | h1
          ·exact HOH.out h h1
          ·simp at h1; subst h1; exact ⟨hy1, hy2⟩
        case measure => simp [intOf]; omega
       ·have hoy2 : 3000 < y.key.size ∨ (y.key.size ≤ 3000 ∧ 3000 < y.val.size) := by omega
        clear hoy
        rcases hoy2 with hy1 | ⟨hy1, hy2⟩
        all_goals
         go_wp2_with fail
         go_ret
         exact ⟨false, rfl, by simp, ((F0.out.tr F.out).tr F1.out).tr G.out⟩
      ·by_cases hp3 : 3000 < p
       ·rcases Nat.lt_or_ge q x.hs.length with hq1 | hq1
        all_goals
         go_wp2_with fail
         go_ret
         exact ⟨false, rfl, by simp, ((F0.out.tr F.out).tr F1.out).tr G.out⟩
       ·have hq1 : x.hs.length ≤ q := by omega
        clear hcond
        go_wp2_with fail
        go_roundw
        case rel =>
         have h1 := HP.out
         have h2 := HOH.out
         rw [List.take_of_length_le hq1] at h1 h2
         refine ⟨k + 1, p, by go_num, rfl, by omega, ?_, by omega, ?_, (F.out.tr F1.out).tr G.out⟩
         ·rw [take_snoc' HX.out, recsW_snoc, ← HM.out, h1]; simp only [recW]; omega
         ·intro r hr
          rw [take_snoc' HX.out] at hr
          rcases List.mem_append.1 hr with h3 | h3
          ·exact HOK.out r h3
          ·simp at h3; subst h3; exact ⟨hk1, hk2, hk3, h2⟩
        case measure => simp [intOf]; omega
    ·have hok3 : 12 < x.hs.length ∨ (x.hs.length ≤ 12 ∧ 3000 < x.key.size) ∨ (x.hs.length ≤ 12 ∧ x.key.size ≤ 3000 ∧ 3000 < x.val.size) := by omega
     have HF := Lib.hid ((F0.out.tr F.out).tr hf1)
     clear hok
     rcases hok3 with hk1 | ⟨hk1, hk2⟩ | ⟨hk1, hk2, hk3⟩
     all_goals
      go_wp2_with fail
      go_ret
      exact ⟨false, rfl, by simp, HF.out⟩
   ·go_wp2_with fail
    go_ret
    obtain rfl : k = b.recs.length := by omega
    have h1 := HM.out
    have h2 := HOK.out
    rw [List.take_length] at h1 h2
    exact ⟨true, rfl, fun _ => ⟨hlen, h2, h1 ▸ hm3⟩, F0.out.tr F.out⟩
end Go.Proofs.YtfdhofabgdkkkaaGreatDoor
