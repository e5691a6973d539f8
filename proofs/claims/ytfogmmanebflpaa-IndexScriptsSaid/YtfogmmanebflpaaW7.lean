/- Entries. -/
import Derived.Test.YtfogmmanebflpaaW6
namespace Go.Proofs.Ytfogmmanebflpaa
open Go.RowKit Go.Fm Go.BigFrame
set_option linter.unusedSimpArgs false
set_option linter.unusedVariables false

theorem info42 : (Try.prog.info? 42).map (fun i => (i.zero, i.size, i.bytes)) = some (some (.agg #[.int .i64 0, .int .i64 0, .int .i64 0]), 3, 24) := by kernel_rfl

def entCells (es : List E) : List Value := es.flatMap fun e => [.int .i64 e.o, .int .i64 e.p, .int .i64 e.t]
theorem entCells_len (es : List E) : (entCells es).length = es.length * 3 := by
  induction es with
  | nil => rfl
  | cons e l ih =>
    have : entCells (e :: l) = [.int .i64 e.o, .int .i64 e.p, .int .i64 e.t] ++ entCells l := by simp [entCells]
    rw [this, List.length_append, ih]
    simp only [List.length_cons, List.length_nil]
    omega
theorem entCells_snoc (es : List E) (e : E) : entCells (es ++ [e]) = entCells es ++ [.int .i64 e.o, .int .i64 e.p, .int .i64 e.t] := by simp [entCells]

theorem take_next {es : List E} {k : Nat} {e : E} (h : es[k]? = some e) : es.take (k + 1) = es.take k ++ [e] := by
  obtain ⟨hk, rfl⟩ := List.getElem?_eq_some_iff.1 h
  exact List.take_succ_eq_append_getElem hk

def EntPost (w : World) (es : List E) (e : Ending) (w' : World) : Prop :=
  ∃ v, e = .returned v ∧ w'.ownsRow w.heap.size 42 3 v es.length (entCells es) ∧ Fr (fun _ => False) w w'

set_option maxHeartbeats 2000000 in
theorem entries_walk (b n sc tc : Nat) (sa ta : Option Addr) (es : List E) (w : World) (hn : n = es.length) (hn1 : n ≤ 1000)
    (c1 : w.cell? ⟨b, 1, none⟩ = some (.slice sa n sc)) (c2 : w.cell? ⟨b, 2, none⟩ = some (.slice ta n tc))
    (hs : ∀ k e, es[k]? = some e → ∃ g, sa = some ⟨g, 0, none⟩ ∧ w.cell? ⟨g, k, none⟩ = some (spotV e.o e.p))
    (ht : ∀ k e, es[k]? = some e → ∃ g, ta = some ⟨g, 0, none⟩ ∧ w.cell? ⟨g, k, none⟩ = some (.int .i64 e.t))
    (hok : ∀ e ∈ es, e.o ≤ big ∧ e.p ≤ big) :
    Calls Try.prog 16 #[.pointer (some ⟨b, 0, none⟩)] w (EntPost w es) := by
  obtain ⟨i42, hi42, hz42, hs42, hb42⟩ := info_parts info42
  have HS := Lib.hid hs
  have HT := Lib.hid ht
  have HO := Lib.hid hok
  have HN := Lib.hid hn
  clear hs ht hok hn
  go_enter Try.func16, Try.ntmps16
  go_wp2_with fail
  go_loopw [3, 13] (fun v i wr => ∃ k : Nat, k ≤ n ∧ i = .int .i64 k ∧ wr.ownsRow w.heap.size 42 3 v k (entCells (es.take k)) ∧ Fr (fun _ => False) w wr) (fun _ i _ => n - (intOf i).toNat)
  case atStart => exact ⟨0, Nat.zero_le _, rfl, World.ownsRow_nil _ _ _ _, Fr.refl _ _⟩
  case round =>
    obtain ⟨k, hk, rfl, hown, hfr⟩ := hrel
    by_cases hlt : k < n
    · obtain ⟨e, he⟩ := get_lt (show k < es.length by rw [← HN.out]; exact hlt)
      obtain ⟨g, rfl, hg⟩ := HS.out k e he
      obtain ⟨g2, rfl, hg2⟩ := HT.out k e he
      obtain ⟨heo, hep⟩ := HO.out e (List.mem_of_getElem? he)
      have HE := Lib.hid he
      have HG := Lib.hid hg
      have HG2 := Lib.hid hg2
      have C2 := Lib.hid c2
      clear he hg hg2
      have d1 := hfr.cell HG.out (fun h => h)
      have hi1 : ((k : Int)).toNat = k := by omega
      have hi2 : (0 : Int) ≤ (k : Int) := by omega
      have hi3 : (k : Int) < (n : Int) := by omega
      obtain ⟨sl, scap, rfl, -, -⟩ := own_slice hown
      have HOW := Lib.hid hown
      have HFR := Lib.hid hfr
      clear hown hfr
      go_wp2_with fail
      have x2 : ∀ x : Lcl.InS (fun w' => Fr (fun _ => False) w w'), x.w.cell? ⟨b, 2, none⟩ = some (.slice (some ⟨g2, 0, none⟩) n tc) := fun x => x.h.cell C2.out (fun h => h)
      have x3 : ∀ x : Lcl.InS (fun w' => Fr (fun _ => False) w w'), x.w.cell? ⟨g2, k, none⟩ = some (.int .i64 e.t) := fun x => x.h.cell HG2.out (fun h => h)
      refine Lcl.wp_region_calm (by kernel_rfl) [(true, [0, 1, 3, 5, 6, 7, 9]), (false, [8]), (true, [10]), (false, [11])] #[0, 0, 2, 0, 14, 0, 32, 96, 224, 0, 992, 2016, 4094, 8190, 16383, 32767] [0, 1, 2, 3, 4, 5, 6, 7, 8, 9, 10, 11] 6 #[true, true, false, true, false, true, true, true, true, true, true, true, false, false, false, false] (by kernel_rfl) (by kernel_rfl) (by kernel_rfl) (fun w' => Fr (fun _ => False) w w') HFR.out.drew (fun d c a v w h => by cases d <;> exact h) ?_
      simp only [Lcl.opsOf, List.map_cons, List.map_nil, List.getElem?_toArray, List.getElem?_cons_succ, List.getElem?_cons_zero, Option.getD_some]
      refine Lcl.wpCalm_t ?_
      repeat (go_big_quiet_step (rfl))
      refine wpQuiet_nil ?_
      refine Lcl.wpCalm_f ?_
      repeat (go_big_quiet_step (rfl))
      refine wpQuiet_nil ?_
      refine Lcl.wpCalm_t ?_
      repeat (go_big_quiet_step (rfl))
      refine wpQuiet_nil ?_
      refine Lcl.wpCalm_f ?_
      repeat (go_big_quiet_step (rfl))
      refine wpQuiet_nil ?_
      refine Lcl.wpCalm_nil ?_
      clear x2 x3
      refine Lcl.wpG_one 2 rfl (by kernel_rfl) ?_
      go_wp2_with fail
      refine (offset_any _ _ heo _).mono ?_
      rintro e1 w' ⟨rfl, rfl⟩
      go_wp2_with fail
      refine ⟨fun _ h => h, ?_⟩
      refine Lcl.wpG_one 4 rfl (by kernel_rfl) ?_
      go_wp2_with fail
      refine (pos_any _ _ hep _).mono ?_
      rintro e1 w' ⟨rfl, rfl⟩
      go_wp2_with fail
      refine ⟨fun _ h => h, ?_⟩
      refine Lcl.wpG_run [12, 13, 14, 15] _ _ _ (by kernel_rfl) ?_
      simp only [List.map_cons, List.map_nil, List.getElem?_toArray, List.getElem?_cons_succ, List.getElem?_cons_zero, Option.getD_some]
      have hown : ((wr.alloc (.cells #[.int .i64 e.o, .int .i64 e.p, .int .i64 e.t] 42)).drew).ownsRow w.heap.size 42 3 (.slice sl k scap) k (entCells (es.take k)) := own_eq HOW.out (fun i hi => heap_alloc_lt _ (own_lt HOW.out hi).2)
      have hfr := (HFR.out.alloc (.cells #[.int .i64 e.o, .int .i64 e.p, .int .i64 e.t] 42)).drew
      have hcn : ∀ j, ((wr.alloc (.cells #[.int .i64 e.o, .int .i64 e.p, .int .i64 e.t] 42)).drew).cell? ⟨wr.heap.size, j, none⟩ = (#[.int .i64 e.o, .int .i64 e.p, .int .i64 e.t] : Array Value)[j]? := fun j => cell_alloc_new wr _ 42 j
      have HOW2 := Lib.hid hown
      have HFR2 := Lib.hid hfr
      have HCN := Lib.hid hcn
      clear hown hfr hcn
      go_wp2_with (at_builtin; refine wpList_append_own2 _ rfl (.tmp 18) (.tmp 31) 40 rfl w.heap.size 42 i42 (.agg #[.int .i64 0, .int .i64 0, .int .i64 0]) 3 24 Try.underlying40 hi42 hz42 hs42 hb42 rfl (by decide) (.slice sl k scap) k _ rfl HOW2.out ⟨wr.heap.size, 0, none⟩ 1 1 [.int .i64 e.o, .int .i64 e.p, .int .i64 e.t] rfl rfl ?c1 ?c2 ?c3 ?c4 ?c5 ?_)
      case c1 =>
        intro j u hj
        have h9 := HCN.out j
        have hadd : (⟨wr.heap.size, 0, none⟩ : Addr).add j = ⟨wr.heap.size, j, none⟩ := by
          unfold Addr.add
          split
          · rename_i h0; rw [h0]
          · simp
        rw [hadd, h9]
        simpa using hj
      case c2 => intro u hu; simp at hu; rcases hu with rfl | rfl | rfl <;> rfl
      case c3 => unfold maxLen; omega
      case c4 => omega
      case c5 => exact HFR2.out.size
      intro v1 W1 ho1 hg1 hv1
      have hO : W1.ownsRow w.heap.size 42 3 v1 (k + 1) (entCells (es.take (k + 1))) := by rw [take_next HE.out, entCells_snoc]; exact ho1
      have hF : Fr (fun _ => False) w W1 := HFR2.out.grown hg1 fun i hi => .inr (own_lt HOW2.out hi).1
      clear ho1 hg1 hv1
      have HO1 := Lib.hid hO
      have HF1 := Lib.hid hF
      clear hO hF
      go_wp2_with fail
      go_roundw
      case rel => exact ⟨k + 1, by omega, by go_num, HO1.out, HF1.out⟩
      case measure => simp [intOf]; omega
    · obtain rfl : k = n := by omega
      have HOW := Lib.hid hown
      have HFR := Lib.hid hfr
      clear hown hfr
      go_wp2_with fail
      go_ret
      have h9 := HOW.out
      have e9 : es.take k = es := List.take_of_length_le (by rw [HN.out]; exact Nat.le_refl _)
      rw [e9, HN.out] at h9
      exact ⟨_, rfl, h9, HFR.out⟩

theorem entries_any {B : Nat} {w : World} {b : Nat} {x : Ix} {S : Nat → Prop} (h : Ix.rep B w b x S) (hok : x.ok) (hn : x.es.length ≤ 1000) :
    Calls Try.prog 16 #[.pointer (some ⟨b, 0, none⟩)] w (EntPost w x.es) := by
  obtain ⟨sa, sc, ta, tc, h1, -⟩ := rep_slices h
  have c1 : w.cell? ⟨b, 1, none⟩ = some (.slice sa x.es.length sc) := by simp [World.cell?, h1.hb, ixCells]
  have c2 : w.cell? ⟨b, 2, none⟩ = some (.slice ta x.es.length tc) := by simp [World.cell?, h1.hb, ixCells]
  refine entries_walk b _ sc tc sa ta x.es w rfl hn c1 c2 ?_ ?_ fun e he => ⟨(hok.es e he).1, (hok.es e he).2.1⟩
  · intro k e he
    rcases own_cells h1.hs with ⟨_, h0⟩ | ⟨g, hg, hc⟩
    · have := lt_get he; omega
    · exact ⟨g, hg, hc k _ (spots_get he)⟩
  · intro k e he
    rcases own_cells h1.ht with ⟨_, h0⟩ | ⟨g, hg, hc⟩
    · have := lt_get he; omega
    · exact ⟨g, hg, hc k _ (tms_get he)⟩
end Go.Proofs.Ytfogmmanebflpaa
