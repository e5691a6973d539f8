/- A disk of many files: their names in order, Names, Drop: laws and walks. -/
import Derived.Test.YtdlnafhhkpklmaaGreatDoorSk
import Derived.Sort.OwnSorted
import Derived.Maps.OwnOps
namespace Go.Proofs.YtdlnafhhkpklmaaGreatDoor
open Go.RowKit Go.Fm Go.BigFrame Go.Maps Go.Shelf
set_option linter.unusedVariables false
set_option linter.unusedSimpArgs false
set_option maxRecDepth 100000

def strB (l : List UInt8) : ByteArray := ⟨l.toArray⟩
theorem strB_list (s : ByteArray) : strB s.data.toList = s := bytes_ext (by simp [strB])
theorem list_strB (l : List UInt8) : (strB l).data.toList = l := by simp [strB]
def bleL (x y : List UInt8) : Bool := decide (x ≤ y)
/-- Names in their order. -/
def sortB (ns : List ByteArray) : List ByteArray := ((ns.map fun s => s.data.toList).mergeSort bleL).map strB
theorem sortB_perm (ns : List ByteArray) : (sortB ns).Perm ns := by
  have h := (List.mergeSort_perm (ns.map fun s => s.data.toList) bleL).map strB
  rw [List.map_map] at h
  have e : ns.map (strB ∘ fun s => s.data.toList) = ns := by
    rw [show (strB ∘ fun s : ByteArray => s.data.toList) = id from funext strB_list, List.map_id]
  rw [e] at h
  exact h
theorem bleL_trans (a b c : List UInt8) (h1 : bleL a b = true) (h2 : bleL b c = true) : bleL a c = true := by
  unfold bleL at *
  simp only [decide_eq_true_eq] at *
  exact List.le_trans h1 h2
theorem bleL_total (a b : List UInt8) : (bleL a b || bleL b a) = true := by
  unfold bleL
  simp only [Bool.or_eq_true, decide_eq_true_eq]
  exact List.le_total a b
theorem bleL_anti (a b : List UInt8) (h1 : bleL a b = true) (h2 : bleL b a = true) : a = b := by
  unfold bleL at *
  simp only [decide_eq_true_eq] at *
  exact List.le_antisymm h1 h2
theorem sort_perm {a b : List (List UInt8)} (h : a.Perm b) : a.mergeSort bleL = b.mergeSort bleL := by
  have h1 := List.pairwise_mergeSort (le := bleL) bleL_trans bleL_total a
  have h2 := List.pairwise_mergeSort (le := bleL) bleL_trans bleL_total b
  exact List.Perm.eq_of_pairwise (fun x y _ _ hx hy => bleL_anti x y hx hy) h1 h2 ((List.mergeSort_perm a bleL).trans (h.trans (List.mergeSort_perm b bleL).symm))
theorem sortB_congr {a b : List ByteArray} (h : a.Perm b) : sortB a = sortB b := by
  unfold sortB
  rw [sort_perm (h.map _)]
def NamesPost' (ns : List ByteArray) (w : World) (e : Ending) (w' : World) : Prop :=
  ∃ v, e = .returned v ∧ w'.ownsRow w.heap.size 9 1 v ns.length ((sortB ns).flatMap keyC) ∧ Fr (fun _ => False) w w'
set_option maxHeartbeats 4000000 in
theorem sorted_any (Bm b : Nat) (L : List Row) (w : World) (hm : w.cell? ⟨Bm, 0, none⟩ = some (.map (some b))) (ht : TabM w b L) (hlen : L.length ≤ 10000) :
    Calls Tryz.prog 60 #[.func (.func 97) #[] #[.pointer (some ⟨Bm, 0, none⟩)]] w (NamesPost' (L.map (·.1)) w) := by
  have HC := Lib.hid (collect_walk Bm b L w (World.block_lt_of_cell? w _ hm) hm ht hlen)
  clear hm ht
  go_enter Tryz.func60, Tryz.ntmps60
  go_wp2_with fail
  refine HC.out.mono ?_
  rintro e w1 ⟨v, ss, rfl, h1, h2, h3, h4⟩
  have hl : ss.length = (L.map (·.1)).length := h1.length_eq
  have F1 := Lib.hid (Fr.of_below (S := fun _ => False) h4 (Nat.le_refl _))
  have hss : ss.flatMap keyC = (ss.map fun s => s.data.toList).map encStr := by
    rw [List.map_map]
    clear h1 h2 h3 h4 hl
    induction ss with
    | nil => rfl
    | cons a l ih => rw [List.flatMap_cons, ih]; simp [keyC, encStr]
  rcases h2.2 with ⟨hnil, hz⟩ | ⟨g, cap, cur, rfl, hbase, hb, e1, e2, e3, e4⟩
  · subst hnil
    have hs0 : ss = [] := (h3.1 rfl)
    subst hs0
    have hL : L.map (·.1) = [] := by simpa using h1
    have H2 := Lib.hid h2
    have HL := Lib.hid hL
    clear h1 h2 h3 h4 hl hss hz HC hL
    go_wp2_with fail
    refine (Tryz.slices_Sort_string_none none 0 _).mono ?_
    rintro e w2 ⟨rfl, rfl⟩
    go_wp2_with fail
    go_ret
    exact ⟨.slice none 0 0, rfl, by rw [HL.out, show sortB [] = [] by simp [sortB]]; exact World.ownsRow_nil _ _ _ _, F1.out⟩
  · rw [hss] at e4
    have hh : Go.Sort.Holds encStr w1 g 0 (ss.map fun s => s.data.toList).toArray := holds_of_block hb (by rw [List.length_map]; simpa using e4)
    have hsl := Tryz.slices_Sort_string g 0 cap (ss.map fun s => s.data.toList) w1 hh (lt_of_heap hb) (by rw [List.length_map, hl, List.length_map]; omega)
    rw [List.length_map] at hsl
    have HS := Lib.hid hsl
    have hp : sortB ss = sortB (L.map (·.1)) := sortB_congr h1
    have HP := Lib.hid hp
    have HB := Lib.hid hb
    have HL := Lib.hid hl
    clear hsl hh hss h1 h2 h3 h4 HC hp hb hl e4
    go_wp2_with fail
    refine HS.out.mono ?_
    rintro e w2 ⟨rfl, n, os, hw2⟩
    have hown := ownsRow_sorted (w := w1) (base := w.heap.size) (g := g) (cap := cap) (n := n) (e := 9) (os := os) (cur := cur) (ss := ss.map fun s => s.data.toList) (ts := (ss.map fun s => s.data.toList).mergeSort fun x y => decide (x ≤ y)) (by rw [List.length_mergeSort]) hbase HB.out (by rw [List.length_map]; exact e1) e2 e3
    have hgr := grownBy_sorted (w := w1) (g := g) (n := n) (os := os) ((ss.map fun s => s.data.toList).mergeSort fun x y => decide (x ≤ y)).toArray
    rw [← hw2] at hown hgr
    have F2 := Lib.hid (F1.out.grown hgr fun k e => by cases e; exact .inr hbase)
    rw [List.length_map] at hown
    have hcells : ((ss.map fun s => s.data.toList).mergeSort fun x y => decide (x ≤ y)).map encStr = (sortB (L.map (·.1))).flatMap keyC := by
      rw [← HP.out]
      unfold sortB
      rw [show (fun x y : List UInt8 => decide (x ≤ y)) = bleL from rfl]
      generalize (ss.map fun s => s.data.toList).mergeSort bleL = z
      induction z with
      | nil => rfl
      | cons a l ih => rw [List.map_cons, ih]; simp [keyC, encStr, strB]
    rw [hcells, HL.out] at hown
    have HO := Lib.hid hown
    clear hown hgr hw2 hcells HS
    go_wp2_with fail
    go_ret
    exact ⟨.slice (some ⟨g, 0, none⟩) (L.map (·.1)).length cap, by rw [HL.out]; rfl, HO.out, F2.out⟩
end Go.Proofs.YtdlnafhhkpklmaaGreatDoor
