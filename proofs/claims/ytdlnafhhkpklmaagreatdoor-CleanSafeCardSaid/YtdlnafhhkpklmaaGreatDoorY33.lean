/- One thing after the other (plog.all): the walk. -/
import Derived.Test.YtdlnafhhkpklmaaGreatDoorY32
import Derived.Test.YtdlnafhhkpklmaaGreatDoorY23
import Derived.RangeFuncNested
import Derived.RangeFuncBound
import Derived.RangeFuncBox
import Derived.RangeFuncCalls
import Derived.RangeFuncLeaves
import Derived.Shelf.Abstract
import Derived.Shelf.RegionOpen
import Derived.WalkKit
import Derived.OwnWalkIn
import Derived.TacticsInMore
import Derived.LoopNIn
import Derived.LoopIn
import Derived.Sort.MapsRangeIn
import Derived.Maps.AppendAt
import Derived.Test.YtdlnafhhkpklmaaGreatDoorY10
import Derived.Sort.OwnSorted
import Derived.Maps.OwnOps
namespace Go.Proofs.YtdlnafhhkpklmaaGreatDoor
open Go.RowKit Go.Fm Go.BigFrame Go.Shelf
set_option linter.unusedVariables false
set_option linter.unusedSimpArgs false
set_option maxRecDepth 100000
/-- A thing to do: a function, what is bound, what it takes along. -/
structure Doing where
 f : Nat
 b : List Value
 c : List Value
def Doing.v (d : Doing) : Value := .func (.func d.f) d.b.toArray d.c.toArray
def AllPost (St : Nat → World → Prop) (Bad : Int → World → Prop) (n : Nat) (e : Ending) (w' : World) : Prop :=
 (e = .returned (.int .i64 0) ∧ St n w') ∨ ∃ c : Int, c ≠ 0 ∧ e = .returned (.int .i64 c) ∧ Bad c w'
theorem all_walk (ds : List Doing) (g cap : Nat) (St : Nat → World → Prop) (Bad : Int → World → Prop) (w : World) (hl : ds.length ≤ 100)
  (hcf : ∀ d ∈ ds, ∀ args w, (callFunc d.f args).run Tryz.prog w = .ok (.enter d.f args) w)
  (hcell : ∀ k d, ds[k]? = some d → ∀ w', St k w' → w'.cell? ⟨g, k, none⟩ = some d.v)
  (hrun : ∀ k d, ds[k]? = some d → ∀ w', St k w' → Calls Tryz.prog d.f (d.b ++ d.c).toArray w' fun e w2 => ∃ c : Int, e = .returned (.int .i64 c) ∧ (c = 0 → St (k + 1) w2) ∧ (c ≠ 0 → Bad c w2))
  (h0 : St 0 w) : Calls Tryz.prog 39 #[.slice (some ⟨g, 0, none⟩) ds.length cap] w (AllPost St Bad ds.length) := by
 have HC := Lib.hid hcell
 have HR := Lib.hid hrun
 have HF := Lib.hid hcf
 clear hcell hrun hcf
 go_enter Tryz.func39, Tryz.ntmps39
 go_wp2_with fail
 go_loopw [8] (fun i wr => ∃ k : Nat, i = .int .i64 k ∧ k ≤ ds.length ∧ St k wr) (fun i _ => ds.length - (intOf i).toNat)
 case atStart => exact ⟨0, rfl, Nat.zero_le _, h0⟩
 case round =>
  obtain ⟨k, rfl, hk, hs⟩ := hrel
  rcases Nat.lt_or_ge k ds.length with hlt | hge
  ·obtain ⟨d, hd⟩ := get_of_lt hlt
   have hc := HC.out k d hd _ hs
   have hr := HR.out k d hd _ hs
   have hcf := HF.out d (List.mem_of_getElem? hd)
   have HRR := Lib.hid hr
   obtain ⟨f, b, c⟩ := d
   unfold Doing.v at hc
   dsimp only at hc hcf
   clear hr
   go_wp2_with fail
   refine HRR.out.mono ?_
   rintro e w2 ⟨c2, rfl, hok, hno⟩
   clear hc hcf
   by_cases hz : c2 = 0
   ·subst hz
    have HOK := Lib.hid (hok rfl)
    clear hok hno
    go_wp2_with fail
    go_roundw
    case rel => exact ⟨k + 1, by go_num, hlt, HOK.out⟩
    case measure => simp [intOf]; omega
   ·have HNO := Lib.hid (hno hz)
    have hq : (c2 != 0) = true := by simpa using hz
    clear hok hno
    go_wp2_with fail
    go_ret
    exact .inr ⟨c2, hz, rfl, HNO.out⟩
  ·go_wp2_with fail
   go_ret
   obtain rfl : k = ds.length := by omega
   exact .inl ⟨rfl, hs⟩
end Go.Proofs.YtdlnafhhkpklmaaGreatDoor
/- The names of a disk's files, told by an iterator and collected: the walks. -/
namespace Go.Proofs.YtdlnafhhkpklmaaGreatDoor
open Go.RowKit Go.Fm Go.BigFrame Go.Maps Go.Shelf
set_option linter.unusedVariables false
set_option linter.unusedSimpArgs false
/-- A map's contents are these rows. -/
structure RowsD (D : DataW Unit) (L : List Row) : Prop where
 rows : RowsOK L
 size : Maps.size D = L.length
 atk : ∀ k : ByteArray, k.size ≤ maxLen → ∀ z, D.atKey (keyL k) z = match getL L k with | some a => dat a | none => z
theorem TabM.opened {w : World} {b : Nat} {L : List Row} (h : TabM w b L) : ∃ D, w.ownsMap Tryz.prog 9 ptrElem b (Maps.size D) D ∧ RowsD D L := by
 obtain ⟨h0, D, h1, h2, h3⟩ := h
 exact ⟨D, h1, h0, h2, h3⟩
theorem ptrElem_ptr {v : Value} {y : DataW Unit × List MemPlace} (h : ptrElem v = some y) : ∃ c, v = .pointer c := by
 unfold ptrElem at h
 split at h
 ·exact ⟨_, rfl⟩
 ·exact ⟨_, rfl⟩
 ·cases h
/-- What has come of a map's keys. -/
structure Come (L : List Row) (left : Lit → Bool) (ss : List ByteArray) : Prop where
 nodup : ss.Nodup
 mem : ∀ k, k ∈ ss ↔ (getL L k).isSome = true ∧ left (keyL k) = false
 ok : ∀ k ∈ ss, k.size ≤ maxLen
theorem Come.perm {L : List Row} {left : Lit → Bool} {ss : List ByteArray} (h : Come L left ss) (hL : RowsOK L) (hl : ∀ x, left x = false) : ss.Perm (L.map (·.1)) := by
 refine (List.perm_ext_iff_of_nodup h.nodup hL.nodup).2 fun k => ?_
 rw [h.mem k, hl]
 constructor
 ·rintro ⟨h1, -⟩
  obtain ⟨a, ha⟩ := Option.isSome_iff_exists.1 h1
  exact List.mem_map.2 ⟨_, getL_some ha, rfl⟩
 ·intro hm
  obtain ⟨r, hr, rfl⟩ := List.mem_map.1 hm
  obtain ⟨k, a⟩ := r
  exact ⟨by rw [getL_mem hL.nodup hr]; rfl, rfl⟩
theorem Come.step {L : List Row} {left : Lit → Bool} {ss : List ByteArray} (h : Come L left ss) (hL : RowsOK L) {k : ByteArray} (hk : k.size ≤ maxLen) (hm : (getL L k).isSome = true) (hlk : left (keyL k) = true) :
  Come L (fun z => left z && !z.sameKey (keyL k)) (ss ++ [k]) := by
 have hnew : k ∉ ss := fun hx => by have := ((h.mem k).1 hx).2; rw [hlk] at this; cases this
 have hleft : ∀ k2, k2.size ≤ maxLen → ((left (keyL k2) && !(keyL k2).sameKey (keyL k)) = false ↔ (left (keyL k2) = false ∨ k2 = k)) := fun k2 hk2 => by
  by_cases e : k2 = k
  ·subst e
   have : (keyL k2).sameKey (keyL k2) = true := WideAt.sameKey_self trivial
   simp [this]
  ·have : (keyL k2).sameKey (keyL k) = false := sameKey_ne fun h => e (keyL_inj h)
   simp [this, e]
 refine ⟨List.nodup_append.2 ⟨h.nodup, by simp, fun a ha b hb => by simp at hb; subst hb; exact fun e => hnew (e ▸ ha)⟩, fun k2 => ?_, fun k2 hk2 => ?_⟩
 ·have hok : (getL L k2).isSome = true → k2.size ≤ maxLen := fun h1 => by
   obtain ⟨a, ha⟩ := Option.isSome_iff_exists.1 h1
   exact hL.ok _ (getL_some ha)
  rw [List.mem_append, List.mem_singleton, h.mem k2]
  constructor
  ·rintro (⟨h1, h2⟩ | rfl)
   ·exact ⟨h1, (hleft k2 (hok h1)).2 (.inl h2)⟩
   ·exact ⟨hm, (hleft k2 hk).2 (.inr rfl)⟩
  ·rintro ⟨h1, h2⟩
   rcases (hleft k2 (hok h1)).1 h2 with h3 | h3
   ·exact .inl ⟨h1, h3⟩
   ·exact .inr h3
 ·rcases List.mem_append.1 hk2 with h1 | h1
  ·exact h.ok k2 h1
  ·rw [List.mem_singleton.1 h1]; exact hk
set_option maxRecDepth 100000 in
set_option maxHeartbeats 4000000 in
/-- maps.Keys's iterator: it gives each key once, in some order. -/
theorem keys_stops (n : Nat) (hn : 1 ≤ n) (Bm b : Nat) (L : List Row) (w : World) (hBm : Bm < w.heap.size) (hm : w.cell? ⟨Bm, 0, none⟩ = some (.map (some b))) (ht : TabM w b L) :
  SeqStopsK Fence.wide n Tryz.prog 97 #[.pointer (some ⟨Bm, 0, none⟩)] (fun k : ByteArray => #[.string k]) KeepsWalks (fun ss => ss.Perm (L.map (·.1))) (fun _ => True) L.length w := by
 intro l J Jx W hW hJ hJx hY h0
 have hm' := (hW.cell (p := ⟨Bm, 0, none⟩) hBm).trans hm
 have ht' : TabM W b L := ht.to (hW.block b ht.lt)
 obtain ⟨D, ho, hD⟩ := ht'.opened
 have HO := Lib.hid ho
 have HD := Lib.hid hD
 have HY := Lib.hid hY
 have HJ := Lib.hid hJ
 have HJX := Lib.hid hJx
 have HT := Lib.hid ht'
 clear ho hD hY hJ hJx ht' ht hm hW
 refine callsIn_of_wp Tryz.func97 rfl trivial ?_ rfl
 simp only [Tryz.ntmps97, List.size_toArray, List.length_cons, List.length_nil, Nat.reduceAdd, Nat.reduceSub, Array.replicate_succ, Array.replicate_zero, List.push_toArray, List.append_toArray, List.nil_append, List.cons_append]
 gi_wp2_with (first
  | (gi_at_range; refine wpListIn_range_own _ rfl _ 84 rfl 9 109 sLaw Tryz.underlying84 _ b _ _ rfl HO.out ?_; intro w0 hrg0 hg0 hs0)
  | gi_in)
 gi_loopw [3] (fun _ wr => ∃ (left : Lit → Bool) (cnt : Nat) (ss : List ByteArray), wr.ranges Tryz.prog 9 ptrElem b W.heap.size (Maps.size D) D left cnt ∧ ss.length + cnt ≤ L.length ∧ Come L left ss ∧ J ss wr)
  (fun _ wr => wr.rangeLeft b W.heap.size)
 case atStart =>
  refine ⟨_, _, [], hrg0, by have := HD.out.size; simp; omega, ⟨by simp, fun k => ?_, fun k h => by cases h⟩, HJ.out [] W w0 none h0 hg0 (fun r e => by cases e)⟩
  constructor
  ·intro h; cases h
  ·rintro ⟨h1, h2⟩
   obtain ⟨a, ha⟩ := Option.isSome_iff_exists.1 h1
   rw [TabM.has (w := w) (b := b) HD.out.atk (HT.out.1.ok _ (getL_some ha)), h1] at h2
   cases h2
 case round =>
  obtain ⟨left, cnt, ss, hrg, hcs, hC, hJs⟩ := hrel
  have HRG := Lib.hid hrg
  have HC := Lib.hid hC
  have HJS := Lib.hid hJs
  clear hrg hC hJs
  gi_wp2_with (first
   | (gi_at_next; refine wpListIn_next_ranges _ rfl _ rfl 9 sLaw ptrElem Value.string Value.pointer (fun key kl hk => by obtain ⟨k, e, _, _⟩ := WideMaps.string_of_keyOf Tryz.underlying9 hk; exact ⟨k, e⟩) (fun v y hv => ptrElem_ptr hv) b W.heap.size _ _ _ _ rfl HRG.out ?_ ?_)
   | gi_in)
  ·intro hc0 hl0
   gi_wp2
   go_end0
   exact ⟨⟨_, rfl⟩, .inl ⟨ss, HC.out.perm HT.out.1 hl0, HJS.out⟩⟩
  ·intro k c kl yd yp w2 cnt2 hkey hlk hv hat hrg2 hlt hg2 hs2 hen
   obtain ⟨k', ek, rfl, hok⟩ := WideMaps.string_of_keyOf Tryz.underlying9 hkey
   injection ek with ek
   subst ek
   have hmem : (getL L k).isSome = true := by
    rw [← TabM.has (w := w) (b := b) HD.out.atk hok]
    exact has_true_of_atKey hat
   have hJ2 : J ss w2 := HJ.out ss wr w2 (some W.heap.size) HJS.out hg2 (fun r e => by cases e; exact ⟨Nat.le_refl _, HRG.out.iter_walk⟩)
   have hJ3 := hJ2
   have hrg3 : w2.ranges Tryz.prog 9 ptrElem b W.heap.size (Maps.size D) D (fun z => left z && !z.sameKey (keyL k)) cnt2 := hrg2
   have hC2 := HC.out.step HT.out.1 hok hmem hlk
   obtain ⟨fn, tmps, assign, body, hy, hR⟩ := HY.out ss k _ hJ3 (by omega)
   have HR := Lib.hid hR
   have HRG3 := Lib.hid hrg3
   have HC2 := Lib.hid hC2
   have HLT := Lib.hid hlt
   clear hs2 hJ2 hJ3 hrg2 hrg3 hC2 hR hlt hg2 hat hv hkey hmem hlk
   gi_wp2
   refine HR.out.mono ?_
   rintro e W3 (⟨rfl, hJ3, hk3⟩ | ⟨rfl, hJx3⟩)
   ·have hrg4 := HRG3.out.of_walks hk3
    have HRG4 := Lib.hid hrg4
    have HJ3 := Lib.hid hJ3
    clear hrg4 hJ3
    gi_wp2
    go_roundw
    case rel => exact ⟨_, cnt2, ss ++ [k], HRG4.out, by simp; have := HLT.out; omega, HC2.out, HJ3.out⟩
    case measure => rw [HRG4.out.left_eq, HRG.out.left_eq]; exact HLT.out
   ·have HJX3 := Lib.hid hJx3
    clear hJx3
    gi_wp2
    refine bodyPost_ret (results_none rfl _ _ _) rfl ?_
    exact ⟨⟨_, rfl⟩, .inr ⟨_, trivial, HJX3.out⟩⟩
theorem info9s : (Tryz.prog.info? 9).map (fun i => (i.zero, i.size, i.bytes)) = some (some (.string ⟨#[]⟩), 1, 16) := by kernel_rfl
def keyC (k : ByteArray) : List Value := [.string k]
theorem key_new (w : World) (k : ByteArray) (t : TypeId) : ∀ j u, ([.string k] : List Value)[j]? = some u → (w.alloc (.cells #[.string k] t)).cell? ((⟨w.heap.size, 0, none⟩ : Addr).add j) = some u := by
 intro j u hj
 match j, hj with
 | 0, hj => simp at hj; subst hj; simp [Addr.add, cell_alloc_new]
def NameAct (sv bs : Value) (k : ByteArray) (a : Act) (W : World) : Prop :=
 a = { tmps := #[.slice none 0 0, sv, bs, undef, .slice none 0 0, .string k, sv, .string k, undef, undef, undef, undef, undef], defers := [] }
set_option maxRecDepth 100000 in
set_option maxHeartbeats 4000000 in
theorem append_walk (Bm b : Nat) (L : List Row) (w : World) (hBm : Bm < w.heap.size) (hm : w.cell? ⟨Bm, 0, none⟩ = some (.map (some b))) (ht : TabM w b L) (hlen : L.length ≤ 10000) :
  CallsIn Fence.wide 3 Tryz.prog 127 #[.slice none 0 0, .func (.func 97) #[] #[.pointer (some ⟨Bm, 0, none⟩)]] w fun e w' => ∃ (v : Value) (ss : List ByteArray), e = .returned v ∧ ss.Perm (L.map (·.1)) ∧
   w'.ownsRow w.heap.size 9 1 v ss.length (ss.flatMap keyC) ∧ (v = .slice none 0 0 ↔ ss = []) ∧ Below w.heap.size w w' := by
 obtain ⟨i0, hi, hz0, hz1, hz2⟩ := info_parts info9s
 have HI := Lib.hid hi
 refine callsIn_of_wp_marks Tryz.func127 rfl trivial ?_ rfl
 simp only [Tryz.ntmps127, List.size_toArray, List.length_cons, List.length_nil, Nat.reduceAdd, Nat.reduceSub, Array.replicate_succ, Array.replicate_zero, List.push_toArray, List.append_toArray, List.nil_append, List.cons_append]
 gi_wp2
 have bO := Boxed.new w 104 (.slice none 0 0)
 have hB0 : Below w.heap.size w (w.alloc (.cells #[.slice none 0 0] 104)) := (Below.refl _ w).alloc (Nat.le_refl _) _
 have hst := keys_stops 2 (by omega) Bm b L _ (Nat.lt_of_lt_of_le hBm hB0.size) ((hB0.cell (p := ⟨Bm, 0, none⟩) hBm).trans hm) (ht.to (hB0.block b ht.lt))
 refine wpIn_rangeFunc_ownH rfl (by omega) (gf := 97) (lb := #[.pointer (some ⟨Bm, 0, none⟩)]) rfl trivial (enters_of Tryz.func97 (by kernel_rfl) rfl)
  hst walksK_t walksK_b (Below.refl _ _) (fun _ => rfl)
  (fun pre W => (∃ v, Boxed W w.heap.size 104 v ∧ W.ownsRow w.heap.size 9 1 v pre.length (pre.flatMap keyC) ∧ (v = .slice none 0 0 ↔ pre = [])) ∧ Below w.heap.size w W)
  (fun _ _ _ => False)
  (OwnFrom.and (Own.from (holdsRow_own w.heap.size w.heap.size 104 9 1 (fun pre => pre.length) (fun pre => pre.flatMap keyC) (fun pre v => v = .slice none 0 0 ↔ pre = [])) _) (ownFrom_below (Nat.le_refl _) (by simp)))
  (fun _ _ _ _ _ hs _ _ => hs)
  ⟨⟨_, bO, World.ownsRow_nil _ _ _ _, by simp⟩, hB0⟩
  (NameAct (.func (.func 97) #[] #[.pointer (some ⟨Bm, 0, none⟩)]) (.pointer (some ⟨w.heap.size, 0, none⟩)))
  ?ax ?assign ?body ?done ?stop
 case ax =>
  rintro k a' _ A B row h hg hr
  exact h
 case assign =>
  rintro l pre x W K ⟨⟨v, hv, hrow, hnil⟩, hB⟩ hK
  gi_wp2_with (rw [Oper.semAt_eq _ _ _ (fun c h => by cases h)]; go_simp; try go_bits)
  exact hK _ _ ((KeepsOthers.refl _).from _) (KeepsOthers.refl _).walks ⟨⟨v, hv, hrow, hnil⟩, hB⟩ rfl
 case body =>
  rintro l pre x a' W hl hr ⟨⟨v, hv, hrow, hnil⟩, hB⟩ rfl hlt
  have hc := hv.cell
  clear hst ht hm bO hi
  gi_wp2_with (first
   | (gi_at_builtin; refine wpListIn_append_own _ rfl _ _ 104 rfl w.heap.size 9 i0 (.string ⟨#[]⟩) 1 16 Tryz.underlying104 HI.out hz0 hz1 hz2 rfl (by decide) _ _ _ rfl (hrow.alloc _) ⟨W.heap.size, 0, none⟩ 1 1 [.string x] rfl rfl (key_new _ _ _) (by simp [Value.oneCell']) (by unfold maxLen; omega) (by omega) (by have := hB.size; simp; omega) ?_; intro v' w1 hown' hgrow _; obtain ⟨g', cap', rfl⟩ := ownsRow_succ hown'; obtain ⟨hv1, hv2, hr2, hk2, hb2⟩ := hv.appended (by decide) hrow hB.size (Nat.le_refl _) hown' hgrow; have hc1 := hv1.cell; have hf1 := hv1.frozen)
   | (rw [Oper.semAt_eq _ _ _ (fun c h => by cases h)]; go_simp; try go_bits))
  exact ⟨hk2.from _, ⟨hk2.size, fun k o h1 h2 => hk2.same k o h1 (Obj.not_cells_of_walk h2)⟩, ⟨_, hv2, by simpa [keyC] using hr2, by simp⟩, hB.trans hb2⟩
 case done =>
  rintro D ys W hD hS ⟨⟨v, hv, hrow, hnil⟩, hB⟩ hK
  have hc := hv.cell
  gi_wp2
  refine ⟨by simp, .inl ⟨_, _, rfl, run_takeDeferred hK, ?_⟩⟩
  exact ⟨_, results_tmp rfl _ _ _, v, ys, rfl, hS, ownsRow_putObj hrow _ hK rfl, hnil, hB.trans (belowK_b (w := w) (Nat.le_refl _) W D _ _ (by simp at hD; omega) hK rfl rfl)⟩
 case stop =>
  rintro D c pre W _ _ h _
  exact h.elim
theorem keysSeq_walk (mb : Nat) (w : World) : Calls Tryz.prog 61 #[.map (some mb)] w fun e w' => e = .returned (.func (.func 97) #[] #[.pointer (some ⟨w.heap.size, 0, none⟩)]) ∧ w' = w.alloc (.cells #[.map (some mb)] 84) := by
 go_enter Tryz.func61, Tryz.ntmps61
 go_wp2_with fail
 go_ret
 exact ⟨rfl, rfl⟩
def CollectPost (L : List Row) (w : World) (e : Ending) (w' : World) : Prop :=
 ∃ (v : Value) (ss : List ByteArray), e = .returned v ∧ ss.Perm (L.map (·.1)) ∧ w'.ownsRow w.heap.size 9 1 v ss.length (ss.flatMap keyC) ∧ (v = .slice none 0 0 ↔ ss = []) ∧ Below w.heap.size w w'
theorem collect_walk (Bm b : Nat) (L : List Row) (w : World) (hBm : Bm < w.heap.size) (hm : w.cell? ⟨Bm, 0, none⟩ = some (.map (some b))) (ht : TabM w b L) (hlen : L.length ≤ 10000) :
  Calls Tryz.prog 95 #[.func (.func 97) #[] #[.pointer (some ⟨Bm, 0, none⟩)]] w (CollectPost L w) := by
 have hcall := callsIn_wide.1 (append_walk Bm b L w hBm hm ht hlen)
 have HC := Lib.hid hcall
 clear hcall hm ht
 go_enter Tryz.func95, Tryz.ntmps95
 go_wp2_with fail
 refine HC.out.mono ?_
 rintro e w' ⟨v, ss, rfl, h1, h2, h3, h4⟩
 have H1 := Lib.hid h1
 have H2 := Lib.hid h2
 have H3 := Lib.hid h3
 have H4 := Lib.hid h4
 clear h1 h2 h3 h4
 go_wp2_with fail
 go_ret
 exact ⟨v, ss, rfl, H1.out, H2.out, H3.out, H4.out⟩
end Go.Proofs.YtdlnafhhkpklmaaGreatDoor
/- The names of a disk of at most one file, sorted; Crash of such a disk: the walks. -/
namespace Go.Proofs.YtdlnafhhkpklmaaGreatDoor
open Go.RowKit Go.Fm Go.BigFrame Go.Maps Go.Shelf
set_option linter.unusedVariables false
set_option linter.unusedSimpArgs false
section
variable {w w' : World} {db mb : Nat} {room used fuse : Int} {L : List Row} {F F' : ByteArray → ByteArray × Nat}
theorem Dk.congr (h : Dk w db mb room used fuse L F) (hF : ∀ r ∈ L, F' r.1 = F r.1) : Dk w db mb room used fuse L F' := ⟨h.d, h.m, fun r hr => by rw [hF r hr]; exact h.f r hr, h.nd, h.sz⟩
end
end Go.Proofs.YtdlnafhhkpklmaaGreatDoor
/- A disk of many files: their names in order, Names, Drop: laws and walks. -/
namespace Go.Proofs.YtdlnafhhkpklmaaGreatDoor
open Go.RowKit Go.Fm Go.BigFrame Go.Maps Go.Shelf
set_option linter.unusedVariables false
set_option linter.unusedSimpArgs false
set_option maxRecDepth 100000
def strB (l : List UInt8) : ByteArray := ⟨l.toArray⟩
theorem strB_list (s : ByteArray) : strB s.data.toList = s := bytes_ext (by simp [strB])
theorem list_strB (l : List UInt8) : (strB l).data.toList = l := by simp [strB]
def bleL (x y : List UInt8) : Bool := decide (x ≤ y)
/-- Names in their order. -/
def sortB (ns : List ByteArray) : List ByteArray := ((ns.map fun s => s.data.toList).mergeSort bleL).map strB
theorem sortB_perm (ns : List ByteArray) : (sortB ns).Perm ns := by
 have h := (List.mergeSort_perm (ns.map fun s => s.data.toList) bleL).map strB
 rw [List.map_map] at h
 have e : ns.map (strB ∘ fun s => s.data.toList) = ns := by
  rw [show (strB ∘ fun s : ByteArray => s.data.toList) = id from funext strB_list, List.map_id]
 rw [e] at h
 exact h
theorem bleL_trans (a b c : List UInt8) (h1 : bleL a b = true) (h2 : bleL b c = true) : bleL a c = true := by
 unfold bleL at *
 simp only [decide_eq_true_eq] at *
 exact List.le_trans h1 h2
theorem bleL_total (a b : List UInt8) : (bleL a b || bleL b a) = true := by
 unfold bleL
 simp only [Bool.or_eq_true, decide_eq_true_eq]
 exact List.le_total a b
theorem bleL_anti (a b : List UInt8) (h1 : bleL a b = true) (h2 : bleL b a = true) : a = b := by
 unfold bleL at *
 simp only [decide_eq_true_eq] at *
 exact List.le_antisymm h1 h2
theorem sort_perm {a b : List (List UInt8)} (h : a.Perm b) : a.mergeSort bleL = b.mergeSort bleL := by
 have h1 := List.pairwise_mergeSort (le := bleL) bleL_trans bleL_total a
 have h2 := List.pairwise_mergeSort (le := bleL) bleL_trans bleL_total b
 exact List.Perm.eq_of_pairwise (fun x y _ _ hx hy => bleL_anti x y hx hy) h1 h2 ((List.mergeSort_perm a bleL).trans (h.trans (List.mergeSort_perm b bleL).symm))
theorem sortB_congr {a b : List ByteArray} (h : a.Perm b) : sortB a = sortB b := by
 unfold sortB
 rw [sort_perm (h.map _)]
def NamesPost' (ns : List ByteArray) (w : World) (e : Ending) (w' : World) : Prop :=
 ∃ v, e = .returned v ∧ w'.ownsRow w.heap.size 9 1 v ns.length ((sortB ns).flatMap keyC) ∧ Fr (fun _ => False) w w'
set_option maxHeartbeats 4000000 in
theorem sorted_any (Bm b : Nat) (L : List Row) (w : World) (hm : w.cell? ⟨Bm, 0, none⟩ = some (.map (some b))) (ht : TabM w b L) (hlen : L.length ≤ 10000) :
  Calls Tryz.prog 60 #[.func (.func 97) #[] #[.pointer (some ⟨Bm, 0, none⟩)]] w (NamesPost' (L.map (·.1)) w) := by
 have HC := Lib.hid (collect_walk Bm b L w (World.block_lt_of_cell? w _ hm) hm ht hlen)
 clear hm ht
 go_enter Tryz.func60, Tryz.ntmps60
 go_wp2_with fail
 refine HC.out.mono ?_
 rintro e w1 ⟨v, ss, rfl, h1, h2, h3, h4⟩
 have hl : ss.length = (L.map (·.1)).length := h1.length_eq
 have F1 := Lib.hid (Fr.of_below (S := fun _ => False) h4 (Nat.le_refl _))
 have hss : ss.flatMap keyC = (ss.map fun s => s.data.toList).map encStr := by
  rw [List.map_map]
  clear h1 h2 h3 h4 hl
  induction ss with
  | nil => rfl
  | cons a l ih => rw [List.flatMap_cons, ih]; simp [keyC, encStr]
 rcases h2.2 with ⟨hnil, hz⟩ | ⟨g, cap, cur, rfl, hbase, hb, e1, e2, e3, e4⟩
 ·subst hnil
  have hs0 : ss = [] := (h3.1 rfl)
  subst hs0
  have hL : L.map (·.1) = [] := by simpa using h1
  have H2 := Lib.hid h2
  have HL := Lib.hid hL
  clear h1 h2 h3 h4 hl hss hz HC hL
  go_wp2_with fail
  refine (Tryz.slices_Sort_string_none none 0 _).mono ?_
  rintro e w2 ⟨rfl, rfl⟩
  go_wp2_with fail
  go_ret
  exact ⟨.slice none 0 0, rfl, by rw [HL.out, show sortB [] = [] by simp [sortB]]; exact World.ownsRow_nil _ _ _ _, F1.out⟩
 ·rw [hss] at e4
  have hh : Go.Sort.Holds encStr w1 g 0 (ss.map fun s => s.data.toList).toArray := holds_of_block hb (by rw [List.length_map]; simpa using e4)
  have hsl := Tryz.slices_Sort_string g 0 cap (ss.map fun s => s.data.toList) w1 hh (lt_of_heap hb) (by rw [List.length_map, hl, List.length_map]; omega)
  rw [List.length_map] at hsl
  have HS := Lib.hid hsl
  have hp : sortB ss = sortB (L.map (·.1)) := sortB_congr h1
  have HP := Lib.hid hp
  have HB := Lib.hid hb
  have HL := Lib.hid hl
  clear hsl hh hss h1 h2 h3 h4 HC hp hb hl e4
  go_wp2_with fail
  refine HS.out.mono ?_
  rintro e w2 ⟨rfl, n, os, hw2⟩
  have hown := ownsRow_sorted (w := w1) (base := w.heap.size) (g := g) (cap := cap) (n := n) (e := 9) (os := os) (cur := cur) (ss := ss.map fun s => s.data.toList) (ts := (ss.map fun s => s.data.toList).mergeSort fun x y => decide (x ≤ y)) (by rw [List.length_mergeSort]) hbase HB.out (by rw [List.length_map]; exact e1) e2 e3
  have hgr := grownBy_sorted (w := w1) (g := g) (n := n) (os := os) ((ss.map fun s => s.data.toList).mergeSort fun x y => decide (x ≤ y)).toArray
  rw [← hw2] at hown hgr
  have F2 := Lib.hid (F1.out.grown hgr fun k e => by cases e; exact .inr hbase)
  rw [List.length_map] at hown
  have hcells : ((ss.map fun s => s.data.toList).mergeSort fun x y => decide (x ≤ y)).map encStr = (sortB (L.map (·.1))).flatMap keyC := by
   rw [← HP.out]
   unfold sortB
   rw [show (fun x y : List UInt8 => decide (x ≤ y)) = bleL from rfl]
   generalize (ss.map fun s => s.data.toList).mergeSort bleL = z
   induction z with
   | nil => rfl
   | cons a l ih => rw [List.map_cons, ih]; simp [keyC, encStr, strB]
  rw [hcells, HL.out] at hown
  have HO := Lib.hid hown
  clear hown hgr hw2 hcells HS
  go_wp2_with fail
  go_ret
  exact ⟨.slice (some ⟨g, 0, none⟩) (L.map (·.1)).length cap, by rw [HL.out]; rfl, HO.out, F2.out⟩
end Go.Proofs.YtdlnafhhkpklmaaGreatDoor
