/- Keys of a table: the keys of a map, told by an iterator and collected: the walks. -/
import Derived.Test.YtdgdhegbcjimbaaT2
import Derived.RangeFuncNested
import Derived.RangeFuncBound
import Derived.RangeFuncBox
import Derived.RangeFuncCalls
import Derived.RangeFuncLeaves
import Derived.Shelf.Abstract
import Derived.Shelf.RegionOpen
import Derived.WalkKit
import Derived.OwnWalkIn
import Derived.TacticsInMore
import Derived.LoopNIn
import Derived.LoopIn
import Derived.Sort.MapsRangeIn
import Derived.Maps.AppendAt
namespace Go.Proofs.Ytdgdhegbcjimbaa
open Go.RowKit Go.Fm Go.BigFrame Go.Maps Go.Shelf
set_option linter.unusedVariables false
set_option linter.unusedSimpArgs false

theorem AbidesFrom.alloc {β : Type} {B : Nat} {J : β → World → Prop} (h : AbidesFrom B J) {s : β} {W : World} (hs : J s W) (o : Obj) : J s (W.alloc o) :=
  h s W _ none hs ⟨rfl, rfl, rfl, by simp, fun k hk _ => Below.heap_alloc W o k hk⟩ fun r e => by cases e
/-- What has come of a map's keys. -/
structure Come (L : List Row) (left : Lit → Bool) (ss : List Key) : Prop where
  nodup : ss.Nodup
  mem : ∀ k, k ∈ ss ↔ (getL L k).isSome = true ∧ left (keyL k) = false
  ok : ∀ k ∈ ss, KeyOK k
theorem Come.perm {L : List Row} {left : Lit → Bool} {ss : List Key} (h : Come L left ss) (hL : RowsOK L) (hl : ∀ x, left x = false) : ss.Perm (L.map (·.1)) := by
  refine (List.perm_ext_iff_of_nodup h.nodup hL.nodup).2 fun k => ?_
  rw [h.mem k, hl]
  constructor
  · rintro ⟨h1, -⟩
    obtain ⟨a, ha⟩ := Option.isSome_iff_exists.1 h1
    exact List.mem_map.2 ⟨_, getL_some ha, rfl⟩
  · intro hm
    obtain ⟨r, hr, rfl⟩ := List.mem_map.1 hm
    obtain ⟨k, a⟩ := r
    exact ⟨by rw [getL_mem hL.nodup hr]; rfl, rfl⟩
theorem Come.step {L : List Row} {left : Lit → Bool} {ss : List Key} (h : Come L left ss) (hL : RowsOK L) {k : Key} (hk : KeyOK k) (hm : (getL L k).isSome = true) (hlk : left (keyL k) = true) :
    Come L (fun z => left z && !z.sameKey (keyL k)) (ss ++ [k]) := by
  have hnew : k ∉ ss := fun hx => by have := ((h.mem k).1 hx).2; rw [hlk] at this; cases this
  have hleft : ∀ k2, KeyOK k2 → ((left (keyL k2) && !(keyL k2).sameKey (keyL k)) = false ↔ (left (keyL k2) = false ∨ k2 = k)) := fun k2 hk2 => by
    by_cases e : k2 = k
    · subst e
      have : (keyL k2).sameKey (keyL k2) = true := WideAt.sameKey_self trivial
      simp [this]
    · have : (keyL k2).sameKey (keyL k) = false := sameKey_ne fun h => e (keyL_inj hk2 hk h)
      simp [this, e]
  refine ⟨List.nodup_append.2 ⟨h.nodup, by simp, fun a ha b hb => by simp at hb; subst hb; exact fun e => hnew (e ▸ ha)⟩, fun k2 => ?_, fun k2 hk2 => ?_⟩
  · have hok : (getL L k2).isSome = true → KeyOK k2 := fun h1 => by
      obtain ⟨a, ha⟩ := Option.isSome_iff_exists.1 h1
      exact (hL.ok _ (getL_some ha)).1
    rw [List.mem_append, List.mem_singleton, h.mem k2]
    constructor
    · rintro (⟨h1, h2⟩ | rfl)
      · exact ⟨h1, (hleft k2 (hok h1)).2 (.inl h2)⟩
      · exact ⟨hm, (hleft k2 hk).2 (.inr rfl)⟩
    · rintro ⟨h1, h2⟩
      rcases (hleft k2 (hok h1)).1 h2 with h3 | h3
      · exact .inl ⟨h1, h3⟩
      · exact .inr h3
  · rcases List.mem_append.1 hk2 with h1 | h1
    · exact h.ok k2 h1
    · rw [List.mem_singleton.1 h1]; exact hk

set_option maxRecDepth 100000 in
set_option maxHeartbeats 4000000 in
/-- maps.Keys's iterator: it gives each key once, in some order. -/
theorem keys_stops (n : Nat) (hn : 1 ≤ n) (Bm b : Nat) (L : List Row) (w : World) (hBm : Bm < w.heap.size) (hm : w.cell? ⟨Bm, 0, none⟩ = some (.map (some b))) (ht : TabM w b L) :
    SeqStopsK Fence.wide n Try.prog 42 #[.pointer (some ⟨Bm, 0, none⟩)] (fun k : Key => #[keyV k]) KeepsWalks (fun ss => ss.Perm (L.map (·.1))) (fun _ => True) L.length w := by
  intro l J Jx W hW hJ hJx hY h0
  have hm' := (hW.cell (p := ⟨Bm, 0, none⟩) hBm).trans hm
  have ht' : TabM W b L := ht.to (hW.block b ht.lt)
  obtain ⟨D, ho, hD⟩ := ht'.open
  have HO := Lib.hid ho
  have HD := Lib.hid hD
  have HY := Lib.hid hY
  have HJ := Lib.hid hJ
  have HJX := Lib.hid hJx
  have HT := Lib.hid ht'
  clear ho hD hY hJ hJx ht' ht hm hW
  refine callsIn_of_wp Try.func42 rfl trivial ?_ rfl
  simp only [Try.ntmps42, List.size_toArray, List.length_cons, List.length_nil, Nat.reduceAdd, Nat.reduceSub, Array.replicate_succ, Array.replicate_zero, List.push_toArray, List.append_toArray, List.nil_append, List.cons_append]
  gi_wp2_with (first
    | (gi_at_range; refine wpListIn_range_own _ rfl _ 56 rfl 36 3 kLaw Try.underlying56 _ b _ _ rfl HO.out ?_; intro w0 hrg0 hg0 hs0)
    | gi_in)
  gi_loopw [3] (fun _ wr => ∃ (left : Lit → Bool) (cnt : Nat) (ss : List Key), wr.ranges Try.prog 36 (plainElem Try.prog 3) b W.heap.size (Maps.size D) D left cnt ∧ ss.length + cnt ≤ L.length ∧ Come L left ss ∧ J ss wr)
    (fun _ wr => wr.rangeLeft b W.heap.size)
  case atStart =>
    refine ⟨_, _, [], hrg0, by have := HD.out.size; simp; omega, ⟨by simp, fun k => ?_, fun k h => by cases h⟩, HJ.out [] W w0 none h0 hg0 (fun r e => by cases e)⟩
    constructor
    · intro h; cases h
    · rintro ⟨h1, h2⟩
      obtain ⟨a, ha⟩ := Option.isSome_iff_exists.1 h1
      rw [TabM.has (w := w) (b := b) HD.out.atk (HT.out.1.ok _ (getL_some ha)).1, h1] at h2
      cases h2
  case round =>
    obtain ⟨left, cnt, ss, hrg, hcs, hC, hJs⟩ := hrel
    have HRG := Lib.hid hrg
    have HC := Lib.hid hC
    have HJS := Lib.hid hJs
    clear hrg hC hJs
    gi_wp2_with (first
      | (gi_at_next; refine wpListIn_next_ranges _ rfl _ rfl 36 kLaw (plainElem Try.prog 3) keyV (Value.int .i64) (fun key kl hk => by obtain ⟨k, _, e, _⟩ := keyOf_inv hk; exact ⟨k, e⟩) (fun v y hv => by obtain ⟨c, rfl, _⟩ := plainElem_int_inv Try.underlying3 hv; exact ⟨c, rfl⟩) b W.heap.size _ _ _ _ rfl HRG.out ?_ ?_)
      | gi_in)
    · intro hc0 hl0
      gi_wp2
      go_end0
      exact ⟨⟨_, rfl⟩, .inl ⟨ss, HC.out.perm HT.out.1 hl0, HJS.out⟩⟩
    · intro k c kl yd yp w2 cnt2 hkey hlk hv hat hrg2 hlt hg2 hs2 hen
      obtain ⟨k', hok, ek, rfl⟩ := keyOf_inv hkey
      obtain rfl := keyV_inj ek
      have hmem : (getL L k).isSome = true := by
        rw [← TabM.has (w := w) (b := b) HD.out.atk hok]
        exact has_true_of_atKey hat
      have hJ2 : J ss w2 := HJ.out ss wr w2 (some W.heap.size) HJS.out hg2 (fun r e => by cases e; exact ⟨Nat.le_refl _, HRG.out.iter_walk⟩)
      have hJ3 : J ss (w2.alloc (.cells #[.string k.g, .string k.t, .int .i64 k.i] 36)) := hJ2 |> fun h => AbidesFrom.alloc HJ.out h _
      have hrg3 : (w2.alloc (.cells #[.string k.g, .string k.t, .int .i64 k.i] 36)).ranges Try.prog 36 (plainElem Try.prog 3) b W.heap.size (Maps.size D) D (fun z => left z && !z.sameKey (keyL k)) cnt2 := hrg2.alloc _
      have hC2 := HC.out.step HT.out.1 hok hmem hlk
      obtain ⟨fn, tmps, assign, body, hy, hR⟩ := HY.out ss k _ hJ3 (by omega)
      have HR := Lib.hid hR
      have HRG3 := Lib.hid hrg3
      have HC2 := Lib.hid hC2
      have HLT := Lib.hid hlt
      clear hs2 hJ2 hJ3 hrg2 hrg3 hC2 hR hlt hg2 hat hv hkey ek hmem hlk
      unfold keyV at hen hy ⊢
      gi_wp2
      refine HR.out.mono ?_
      rintro e W3 (⟨rfl, hJ3, hk3⟩ | ⟨rfl, hJx3⟩)
      · have hrg4 := HRG3.out.of_walks hk3
        have HRG4 := Lib.hid hrg4
        have HJ3 := Lib.hid hJ3
        clear hrg4 hJ3
        gi_wp2
        go_roundw
        case rel => exact ⟨_, cnt2, ss ++ [k], HRG4.out, by simp; have := HLT.out; omega, HC2.out, HJ3.out⟩
        case measure => rw [HRG4.out.left_eq, HRG.out.left_eq]; exact HLT.out
      · have HJX3 := Lib.hid hJx3
        clear hJx3
        gi_wp2
        refine bodyPost_ret (results_none rfl _ _ _) rfl ?_
        exact ⟨⟨_, rfl⟩, .inr ⟨_, trivial, HJX3.out⟩⟩
end Go.Proofs.Ytdgdhegbcjimbaa
