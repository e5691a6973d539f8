/- The reference's Add: what is taken. -/
import Derived.Test.YtfogmmanebflpaaR1
namespace Go.Proofs.Ytfogmmanebflpaa
open Go.RowKit Go.Fm Go.BigFrame
set_option linter.unusedSimpArgs false
set_option linter.unusedVariables false

theorem rf_done {S0 : Nat → Prop} {w W : World} {B b : Nat} {every o p lat : Nat} {es : List E} {l v : Value} {n : Nat} (hb : W.heap[b]? = some (.cells (rfCells every l true o p lat) 39 (0, 0))) (hv : W.ownsRow B 37 3 v n (entCells es)) (hn : n = es.length) (hB : B ≤ b) (hvb : v.ownBlock ≠ some b)
    (hS : S0 b) (hvs : ∀ k, v.ownBlock = some k → S0 k ∨ w.heap.size ≤ k) (hfr : Fr S0 w W) : RfPost B w b S0 ⟨every, es, true, o, p, lat⟩ (W.setCell ⟨b, 1, none⟩ v) := by
  subst hn
  refine ⟨rfoot b v, ⟨v, ⟨?_, ?_, hB, hvb⟩, fun k => Iff.rfl⟩, ?_, ?_⟩
  · rw [heap_setCell_self hb _]; rfl
  · exact own_eq hv fun k hk => heap_setCell_ne _ (fun e => hvb (by rw [← e]; exact hk)) _
  · rintro k (rfl | hk)
    · exact .inl hS
    · exact hvs k hk
  · exact Fr.setCell (p := ⟨b, 1, none⟩) hfr (.inl hS) v


set_option maxHeartbeats 1000000 in
theorem radd_first (b : Nat) (every n : Nat) (la : Option Addr) (lc : Nat) (lo lp lat : Nat) (o p t : Nat) (B : Nat) (w : World) (hn : n = 0) (HR : Rf.repV B w b ⟨every, [], false, lo, lp, lat⟩ (.slice la n lc))
    (hBw : B ≤ w.heap.size) (ho : may (o : Int)) (hp : may (p : Int)) (ht : may (t : Int)) :
    Calls Try.prog 13 #[.pointer (some ⟨b, 0, none⟩), .int .i64 o, .int .i64 p, .int .i64 t] w fun e w' => e = .returned (.int .i64 0) ∧ RfPost B w b (rfoot b (.slice la n lc)) ⟨every, [⟨o, p, t⟩], true, o, p, t⟩ w' := by
  have hb := HR.hb
  have hlt := lt_of_heap hb
  have c0 : w.cell? ⟨b, 0, none⟩ = some (.int .i64 every) := by simp [World.cell?, hb, rfCells]
  have c1 : w.cell? ⟨b, 1, none⟩ = some (.slice la n lc) := by simp [World.cell?, hb, rfCells]
  have c2 : w.cell? ⟨b, 2, none⟩ = some (.bool false) := by simp [World.cell?, hb, rfCells]
  have c3 : w.cell? ⟨b, 3, none⟩ = some (.int .i64 lo) := by simp [World.cell?, hb, rfCells]
  have c4 : w.cell? ⟨b, 4, none⟩ = some (.int .i64 lp) := by simp [World.cell?, hb, rfCells]
  have c5 : w.cell? ⟨b, 5, none⟩ = some (.int .i64 0) := by simp [World.cell?, hb, rfCells]
  have c6 : w.cell? ⟨b, 6, none⟩ = some (.int .i64 lat) := by simp [World.cell?, hb, rfCells]
  have f : ∀ k, w.frozen? ⟨b, k, none⟩ = false := by simp [World.frozen?, hb]
  have f2 := f 2
  have f3 := f 3
  have f4 := f 4
  have f5 := f 5
  have f6 := f 6
  have hq0 : ((n : Int) == 0) = true := by rw [hn]; rfl
  have hn1 : n ≤ 1000 := by omega
  have hp2 : p ≤ 1099511627776 := by have := hp.2; omega
  have HB := Lib.hid hb
  have HH := Lib.hid HR
  have HN := Lib.hid hn
  clear hb f HR hn
  go_enter Try.func13, Try.ntmps13
  go_wp2_with fail
  refine (may_yes _ ho _).mono ?_
  rintro e w' ⟨rfl, rfl⟩
  go_wp2_with fail
  refine (may_yes _ hp _).mono ?_
  rintro e w' ⟨rfl, rfl⟩
  go_wp2_with fail
  refine (may_yes _ ht _).mono ?_
  rintro e w' ⟨rfl, rfl⟩
  go_wp2_with fail
  have hW1 : (((((w.setCell ⟨b, 6, none⟩ (.int .i64 t)).setCell ⟨b, 2, none⟩ (.bool true)).setCell ⟨b, 3, none⟩ (.int .i64 o)).setCell ⟨b, 4, none⟩ (.int .i64 p)).setCell ⟨b, 5, none⟩ (.int .i64 0)).heap[b]? = some (.cells (rfCells every (.slice la n lc) true o p t) 39 (0, 0)) := by
    rw [heap_setCell_self (heap_setCell_self (heap_setCell_self (heap_setCell_self (heap_setCell_self HB.out _) _) _) _) _]
    rfl
  have hW2 : Fr (fun k => k = b) w (((((w.setCell ⟨b, 6, none⟩ (.int .i64 t)).setCell ⟨b, 2, none⟩ (.bool true)).setCell ⟨b, 3, none⟩ (.int .i64 o)).setCell ⟨b, 4, none⟩ (.int .i64 p)).setCell ⟨b, 5, none⟩ (.int .i64 0)) :=
    Fr.setCell (p := ⟨b, 5, none⟩) (Fr.setCell (p := ⟨b, 4, none⟩) (Fr.setCell (p := ⟨b, 3, none⟩) (Fr.setCell (p := ⟨b, 2, none⟩) (Fr.setCell (p := ⟨b, 6, none⟩) (Fr.refl (fun k => k = b) w) (.inl rfl) (.int .i64 t)) (.inl rfl) (.bool true)) (.inl rfl) (.int .i64 o)) (.inl rfl) (.int .i64 p)) (.inl rfl) (.int .i64 0)
  generalize (((((w.setCell ⟨b, 6, none⟩ (.int .i64 t)).setCell ⟨b, 2, none⟩ (.bool true)).setCell ⟨b, 3, none⟩ (.int .i64 o)).setCell ⟨b, 4, none⟩ (.int .i64 p)).setCell ⟨b, 5, none⟩ (.int .i64 0)) = W at *
  clear c0 c1 c2 c3 c4 c5 c6 f2 f3 f4 f5 f6
  have c0 : W.cell? ⟨b, 0, none⟩ = some (.int .i64 every) := by simp [World.cell?, hW1, rfCells]
  have c1 : W.cell? ⟨b, 1, none⟩ = some (.slice la n lc) := by simp [World.cell?, hW1, rfCells]
  have HW1 := Lib.hid hW1
  clear hW1
  go_quiet (fail)
  go_wp2_with fail
  have hL : (W.drewN nq).ownsRow B 37 3 (.slice la n lc) n (entCells []) := (by have e0 := HN.out; subst e0; exact own_eq HH.out.hl fun k hk => hW2.block k (own_lt HH.out.hl hk).2 (fun e => HH.out.lb (e ▸ hk)))
  have hF := (hW2.mono (S' := rfoot b (.slice la n lc)) fun i hi => .inl (.inl hi)).drewN nq
  have hX : (W.drewN nq).heap[b]? = _ := HW1.out
  clear HW1 hW2 c0 c1
  generalize W.drewN nq = W8 at *
  have HL := Lib.hid hL
  have HF := Lib.hid hF
  have HX := Lib.hid hX
  clear hL hF hX
  have hx1 : ∀ x : Lcl.InS (fun w' => w'.heap[b]? = some (.cells (rfCells every (.slice la n lc) true o p t) 39 (0, 0))), x.w.cell? ⟨b, 1, none⟩ = some (.slice la n lc) := fun x => by simp [World.cell?, x.h, rfCells]
  have hx6 : ∀ x : Lcl.InS (fun w' => w'.heap[b]? = some (.cells (rfCells every (.slice la n lc) true o p t) 39 (0, 0))), x.w.cell? ⟨b, 6, none⟩ = some (.int .i64 t) := fun x => by simp [World.cell?, x.h, rfCells]
  refine Lcl.wp_region_calm (by kernel_rfl) [(true, [0, 1, 2, 3, 5, 6, 7, 8, 9]), (false, [4, 10]), (true, [11])] #[0, 0, 2, 6, 14, 0, 0, 0, 128, 384, 896, 2016, 4064, 8190, 16383, 32767, 65535] [0, 1, 2, 3, 4, 5, 6, 7, 8, 9, 10, 11, 12] 5 #[true, true, true, true, true, true, true, true, true, true, true, true, false, false, false, false, false] (by kernel_rfl) (by kernel_rfl) (by kernel_rfl) (fun w' => w'.heap[b]? = some (.cells (rfCells every (.slice la n lc) true o p t) 39 (0, 0))) HX.out (fun d c a v w h => by cases d <;> exact h) ?_
  simp only [Lcl.opsOf, List.map_cons, List.map_nil, List.getElem?_toArray, List.getElem?_cons_succ, List.getElem?_cons_zero, Option.getD_some]
  refine Lcl.wpCalm_t ?_
  repeat (go_big_quiet_step (rfl))
  refine wpQuiet_nil ?_
  refine Lcl.wpCalm_f ?_
  repeat (go_big_quiet_step (rfl))
  refine wpQuiet_nil ?_
  refine Lcl.wpCalm_t ?_
  repeat (go_big_quiet_step (rfl))
  refine wpQuiet_nil ?_
  refine Lcl.wpCalm_nil ?_
  clear hx1 hx6
  refine Lcl.wpG_one 12 rfl (by kernel_rfl) ?_
  go_wp2_with fail
  have hlt8 := lt_of_heap HX.out
  refine ⟨fun _ h => (heap_alloc_lt _ hlt8).trans h, ?_⟩
  refine Lcl.wpG_run [13, 14, 15, 16] _ _ _ (by kernel_rfl) ?_
  simp only [List.map_cons, List.map_nil, List.getElem?_toArray, List.getElem?_cons_succ, List.getElem?_cons_zero, Option.getD_some]
  have hcn : ∀ j, ((W8.alloc (.cells #[.int .i64 o, .int .i64 p, .int .i64 t] 37)).drew).cell? ⟨W8.heap.size, j, none⟩ = (#[.int .i64 o, .int .i64 p, .int .i64 t] : Array Value)[j]? := fun j => cell_alloc_new W8 _ 37 j
  have hL2 : ((W8.alloc (.cells #[.int .i64 o, .int .i64 p, .int .i64 t] 37)).drew).ownsRow B 37 3 (.slice la n lc) n (entCells []) := own_eq HL.out (fun i hi => heap_alloc_lt (w := W8) _ (own_lt HL.out hi).2)
  have hF2 : Fr (rfoot b (.slice la n lc)) w (W8.alloc (.cells #[.int .i64 o, .int .i64 p, .int .i64 t] 37)).drew := (HF.out.alloc _).drew
  have hX2 : (W8.alloc (.cells #[.int .i64 o, .int .i64 p, .int .i64 t] 37)).drew.heap[b]? = some (.cells (rfCells every (.slice la n lc) true o p t) 39 (0, 0)) := (heap_alloc_lt (w := W8) _ hlt8).trans HX.out
  clear hlt8
  have HCN := Lib.hid hcn
  have HL2 := Lib.hid hL2
  have HF2 := Lib.hid hF2
  have HX2 := Lib.hid hX2
  clear hcn hL2 hF2 hX2
  obtain ⟨i37, hi37, hz37, hs37, hb37⟩ := info_parts info37
  refine wpList_append_own2 _ rfl (.tmp 102) (.tmp 110) 36 rfl B 37 i37 (.agg #[.int .i64 0, .int .i64 0, .int .i64 0]) 3 24 Try.underlying36 hi37 hz37 hs37 hb37 rfl (by decide) (.slice la n lc) n _ rfl HL2.out ⟨W8.heap.size, 0, none⟩ 1 1 [.int .i64 o, .int .i64 p, .int .i64 t] rfl rfl ?c1 ?c2 ?c3 ?c4 ?c5 ?_
  case c1 =>
    intro j u hj
    have h9 := HCN.out j
    have hadd : (⟨W8.heap.size, 0, none⟩ : Addr).add j = ⟨W8.heap.size, j, none⟩ := by
      unfold Addr.add
      split
      · rename_i h0; rw [h0]
      · simp
    rw [hadd, h9]
    simpa using hj
  case c2 => intro u hu; simp at hu; rcases hu with rfl | rfl | rfl <;> rfl
  case c3 => unfold maxLen; omega
  case c4 => omega
  case c5 => exact Nat.le_trans hBw HF2.out.size
  intro v1 W1 ho1 hg1 hv1
  have hlt2 := lt_of_heap HX2.out
  have hX3 := (hg1.block b hlt2 (fun e => HH.out.lb e.symm)).trans HX2.out
  have hF3 := HF2.out.grown hg1 fun i hi => .inl (.inr hi)
  have hvb : v1.ownBlock ≠ some b := by
    rcases hv1 with e | e <;> rw [e]
    · exact HH.out.lb
    · intro e; injection e with e; omega
  have hvs : ∀ k, v1.ownBlock = some k → rfoot b (.slice la n lc) k ∨ w.heap.size ≤ k := by
    intro k hk
    rcases hv1 with e | e <;> rw [e] at hk
    · exact .inl (.inr hk)
    · injection hk with hk; exact .inr (by rw [← hk]; exact HF2.out.size)
  have hD := rf_done (es := [⟨o, p, t⟩]) hX3 (by first | exact ho1 | (rw [entCells_snoc]; exact ho1)) (by rw [HN.out]; rfl) HH.out.hB hvb (.inl rfl) hvs hF3
  obtain ⟨x1, y1, rfl, -, -⟩ := own_slice ho1
  have k1 : W1.cell? ⟨b, 1, none⟩ = some (.slice la n lc) := by simp [World.cell?, hX3, rfCells]
  have k2 : W1.frozen? ⟨b, 1, none⟩ = false := by simp [World.frozen?, hX3]
  have HD := Lib.hid hD
  clear hD ho1 hg1 hv1 hX3 hF3 hvb hvs hlt2
  simp only [Act.put, List.setIfInBounds_toArray, List.set_cons_zero, List.set_cons_succ]
  go_wp2_with fail
  go_ret
  exact ⟨rfl, HD.out⟩

set_option maxHeartbeats 1000000 in
theorem radd_more_gt (b : Nat) (every n : Nat) (la : Option Addr) (lc : Nat) (lo lp lat : Nat) (o p t : Nat) (B : Nat) (es : List E) (w : World) (hn : n = es.length) (HR : Rf.repV B w b ⟨every, es, true, lo, lp, lat⟩ (.slice la n lc))
    (ep : Nat) (hlast : ∃ g, la = some ⟨g, 0, none⟩ ∧ w.cell? ⟨g, (n - 1) * 3 + 1, none⟩ = some (.int .i64 ep)) (hn0 : 0 < n) (hn1 : n ≤ 1000) (hep : ep ≤ big) (hev : every ≤ 1000000) (h1 : lo < o) (h2 : lp < p) (hlat : lat < t) (hen : (p : Int) < (ep : Int) + every)
    (hBw : B ≤ w.heap.size) (ho : may (o : Int)) (hp : may (p : Int)) (ht : may (t : Int)) :
    Calls Try.prog 13 #[.pointer (some ⟨b, 0, none⟩), .int .i64 o, .int .i64 p, .int .i64 t] w fun e w' => e = .returned (.int .i64 0) ∧ RfPost B w b (rfoot b (.slice la n lc)) ⟨every, es, true, o, p, t⟩ w' := by
  obtain ⟨g, rfl, hgc⟩ := hlast
  have hb := HR.hb
  have hlt := lt_of_heap hb
  have c0 : w.cell? ⟨b, 0, none⟩ = some (.int .i64 every) := by simp [World.cell?, hb, rfCells]
  have c1 : w.cell? ⟨b, 1, none⟩ = some (.slice (some ⟨g, 0, none⟩) n lc) := by simp [World.cell?, hb, rfCells]
  have c2 : w.cell? ⟨b, 2, none⟩ = some (.bool true) := by simp [World.cell?, hb, rfCells]
  have c3 : w.cell? ⟨b, 3, none⟩ = some (.int .i64 lo) := by simp [World.cell?, hb, rfCells]
  have c4 : w.cell? ⟨b, 4, none⟩ = some (.int .i64 lp) := by simp [World.cell?, hb, rfCells]
  have c5 : w.cell? ⟨b, 5, none⟩ = some (.int .i64 0) := by simp [World.cell?, hb, rfCells]
  have c6 : w.cell? ⟨b, 6, none⟩ = some (.int .i64 lat) := by simp [World.cell?, hb, rfCells]
  have f : ∀ k, w.frozen? ⟨b, k, none⟩ = false := by simp [World.frozen?, hb]
  have f2 := f 2
  have f3 := f 3
  have f4 := f 4
  have f5 := f 5
  have f6 := f 6
  have hq0 : ((n : Int) == 0) = false := by rw [beq_eq_false_iff_ne]; omega
  have hgb : g ≠ b := fun e => HR.lb (by simp [Value.ownBlock, e])
  have hp2 : p ≤ 1099511627776 := by have := hp.2; omega
  have HB := Lib.hid hb
  have HH := Lib.hid HR
  have HN := Lib.hid hn
  clear hb f HR hn
  go_enter Try.func13, Try.ntmps13
  go_wp2_with fail
  refine (may_yes _ ho _).mono ?_
  rintro e w' ⟨rfl, rfl⟩
  go_wp2_with fail
  refine (may_yes _ hp _).mono ?_
  rintro e w' ⟨rfl, rfl⟩
  go_wp2_with fail
  refine (may_yes _ ht _).mono ?_
  rintro e w' ⟨rfl, rfl⟩
  go_wp2_with fail
  have hW1 : (((((w.setCell ⟨b, 6, none⟩ (.int .i64 t)).setCell ⟨b, 2, none⟩ (.bool true)).setCell ⟨b, 3, none⟩ (.int .i64 o)).setCell ⟨b, 4, none⟩ (.int .i64 p)).setCell ⟨b, 5, none⟩ (.int .i64 0)).heap[b]? = some (.cells (rfCells every (.slice (some ⟨g, 0, none⟩) n lc) true o p t) 39 (0, 0)) := by
    rw [heap_setCell_self (heap_setCell_self (heap_setCell_self (heap_setCell_self (heap_setCell_self HB.out _) _) _) _) _]
    rfl
  have hW2 : Fr (fun k => k = b) w (((((w.setCell ⟨b, 6, none⟩ (.int .i64 t)).setCell ⟨b, 2, none⟩ (.bool true)).setCell ⟨b, 3, none⟩ (.int .i64 o)).setCell ⟨b, 4, none⟩ (.int .i64 p)).setCell ⟨b, 5, none⟩ (.int .i64 0)) :=
    Fr.setCell (p := ⟨b, 5, none⟩) (Fr.setCell (p := ⟨b, 4, none⟩) (Fr.setCell (p := ⟨b, 3, none⟩) (Fr.setCell (p := ⟨b, 2, none⟩) (Fr.setCell (p := ⟨b, 6, none⟩) (Fr.refl (fun k => k = b) w) (.inl rfl) (.int .i64 t)) (.inl rfl) (.bool true)) (.inl rfl) (.int .i64 o)) (.inl rfl) (.int .i64 p)) (.inl rfl) (.int .i64 0)
  generalize (((((w.setCell ⟨b, 6, none⟩ (.int .i64 t)).setCell ⟨b, 2, none⟩ (.bool true)).setCell ⟨b, 3, none⟩ (.int .i64 o)).setCell ⟨b, 4, none⟩ (.int .i64 p)).setCell ⟨b, 5, none⟩ (.int .i64 0)) = W at *
  clear c0 c1 c2 c3 c4 c5 c6 f2 f3 f4 f5 f6
  have c0 : W.cell? ⟨b, 0, none⟩ = some (.int .i64 every) := by simp [World.cell?, hW1, rfCells]
  have c1 : W.cell? ⟨b, 1, none⟩ = some (.slice (some ⟨g, 0, none⟩) n lc) := by simp [World.cell?, hW1, rfCells]
  have cg : W.cell? ⟨g, (n - 1) * 3 + 1, none⟩ = some (.int .i64 ep) := hW2.cell hgc hgb
  have hi1 : ((n : Int) - 1).toNat = n - 1 := by omega
  have hi2 : (0 : Int) ≤ (n : Int) - 1 := by omega
  have hj3 : (n : Int) - 1 < n := by omega
  have hi4 : IntKind.i64.wrap ((n : Int) - 1) = (n : Int) - 1 := IntWalk.i64_in _ (by omega)
  have hi5 : (1 : Int) ≤ (n : Int) := by omega
  have hi6 : n - 1 < n := by omega
  unfold big at hep
  have hi7 : IntKind.i64.wrap ((ep : Int) + every) = (ep : Int) + every := IntWalk.i64_in _ (by omega)
  have HW1 := Lib.hid hW1
  clear hW1 hgc
  go_quiet (fail)
  go_wp2_with fail
  go_ret
  refine ⟨rfl, ?_⟩
  have e0 := HN.out
  clear HN
  subst e0
  exact ⟨rfoot b _, ⟨_, ⟨HW1.out, own_eq HH.out.hl fun k hk => hW2.block k (own_lt HH.out.hl hk).2 (fun e => HH.out.lb (e ▸ hk)), HH.out.hB, HH.out.lb⟩, fun k => Iff.rfl⟩, fun k hk => .inl hk, (hW2.mono fun i hi => .inl (.inl hi)).drewN _⟩

set_option maxHeartbeats 1000000 in
theorem radd_more_le (b : Nat) (every n : Nat) (la : Option Addr) (lc : Nat) (lo lp lat : Nat) (o p t : Nat) (B : Nat) (es : List E) (w : World) (hn : n = es.length) (HR : Rf.repV B w b ⟨every, es, true, lo, lp, lat⟩ (.slice la n lc))
    (ep : Nat) (hlast : ∃ g, la = some ⟨g, 0, none⟩ ∧ w.cell? ⟨g, (n - 1) * 3 + 1, none⟩ = some (.int .i64 ep)) (hn0 : 0 < n) (hn1 : n ≤ 1000) (hep : ep ≤ big) (hev : every ≤ 1000000) (h1 : lo < o) (h2 : lp < p) (hlat : t ≤ lat) (hen : (p : Int) < (ep : Int) + every)
    (hBw : B ≤ w.heap.size) (ho : may (o : Int)) (hp : may (p : Int)) (ht : may (t : Int)) :
    Calls Try.prog 13 #[.pointer (some ⟨b, 0, none⟩), .int .i64 o, .int .i64 p, .int .i64 t] w fun e w' => e = .returned (.int .i64 0) ∧ RfPost B w b (rfoot b (.slice la n lc)) ⟨every, es, true, o, p, lat⟩ w' := by
  obtain ⟨g, rfl, hgc⟩ := hlast
  have hb := HR.hb
  have hlt := lt_of_heap hb
  have c0 : w.cell? ⟨b, 0, none⟩ = some (.int .i64 every) := by simp [World.cell?, hb, rfCells]
  have c1 : w.cell? ⟨b, 1, none⟩ = some (.slice (some ⟨g, 0, none⟩) n lc) := by simp [World.cell?, hb, rfCells]
  have c2 : w.cell? ⟨b, 2, none⟩ = some (.bool true) := by simp [World.cell?, hb, rfCells]
  have c3 : w.cell? ⟨b, 3, none⟩ = some (.int .i64 lo) := by simp [World.cell?, hb, rfCells]
  have c4 : w.cell? ⟨b, 4, none⟩ = some (.int .i64 lp) := by simp [World.cell?, hb, rfCells]
  have c5 : w.cell? ⟨b, 5, none⟩ = some (.int .i64 0) := by simp [World.cell?, hb, rfCells]
  have c6 : w.cell? ⟨b, 6, none⟩ = some (.int .i64 lat) := by simp [World.cell?, hb, rfCells]
  have f : ∀ k, w.frozen? ⟨b, k, none⟩ = false := by simp [World.frozen?, hb]
  have f2 := f 2
  have f3 := f 3
  have f4 := f 4
  have f5 := f 5
  have f6 := f 6
  have hq0 : ((n : Int) == 0) = false := by rw [beq_eq_false_iff_ne]; omega
  have hgb : g ≠ b := fun e => HR.lb (by simp [Value.ownBlock, e])
  have hp2 : p ≤ 1099511627776 := by have := hp.2; omega
  have HB := Lib.hid hb
  have HH := Lib.hid HR
  have HN := Lib.hid hn
  clear hb f HR hn
  go_enter Try.func13, Try.ntmps13
  go_wp2_with fail
  refine (may_yes _ ho _).mono ?_
  rintro e w' ⟨rfl, rfl⟩
  go_wp2_with fail
  refine (may_yes _ hp _).mono ?_
  rintro e w' ⟨rfl, rfl⟩
  go_wp2_with fail
  refine (may_yes _ ht _).mono ?_
  rintro e w' ⟨rfl, rfl⟩
  go_wp2_with fail
  have hW1 : ((((w.setCell ⟨b, 2, none⟩ (.bool true)).setCell ⟨b, 3, none⟩ (.int .i64 o)).setCell ⟨b, 4, none⟩ (.int .i64 p)).setCell ⟨b, 5, none⟩ (.int .i64 0)).heap[b]? = some (.cells (rfCells every (.slice (some ⟨g, 0, none⟩) n lc) true o p lat) 39 (0, 0)) := by
    rw [heap_setCell_self (heap_setCell_self (heap_setCell_self (heap_setCell_self HB.out _) _) _) _]
    rfl
  have hW2 : Fr (fun k => k = b) w ((((w.setCell ⟨b, 2, none⟩ (.bool true)).setCell ⟨b, 3, none⟩ (.int .i64 o)).setCell ⟨b, 4, none⟩ (.int .i64 p)).setCell ⟨b, 5, none⟩ (.int .i64 0)) :=
    Fr.setCell (p := ⟨b, 5, none⟩) (Fr.setCell (p := ⟨b, 4, none⟩) (Fr.setCell (p := ⟨b, 3, none⟩) (Fr.setCell (p := ⟨b, 2, none⟩) (Fr.refl (fun k => k = b) w) (.inl rfl) (.bool true)) (.inl rfl) (.int .i64 o)) (.inl rfl) (.int .i64 p)) (.inl rfl) (.int .i64 0)
  generalize ((((w.setCell ⟨b, 2, none⟩ (.bool true)).setCell ⟨b, 3, none⟩ (.int .i64 o)).setCell ⟨b, 4, none⟩ (.int .i64 p)).setCell ⟨b, 5, none⟩ (.int .i64 0)) = W at *
  clear c0 c1 c2 c3 c4 c5 c6 f2 f3 f4 f5 f6
  have c0 : W.cell? ⟨b, 0, none⟩ = some (.int .i64 every) := by simp [World.cell?, hW1, rfCells]
  have c1 : W.cell? ⟨b, 1, none⟩ = some (.slice (some ⟨g, 0, none⟩) n lc) := by simp [World.cell?, hW1, rfCells]
  have cg : W.cell? ⟨g, (n - 1) * 3 + 1, none⟩ = some (.int .i64 ep) := hW2.cell hgc hgb
  have hi1 : ((n : Int) - 1).toNat = n - 1 := by omega
  have hi2 : (0 : Int) ≤ (n : Int) - 1 := by omega
  have hj3 : (n : Int) - 1 < n := by omega
  have hi4 : IntKind.i64.wrap ((n : Int) - 1) = (n : Int) - 1 := IntWalk.i64_in _ (by omega)
  have hi5 : (1 : Int) ≤ (n : Int) := by omega
  have hi6 : n - 1 < n := by omega
  unfold big at hep
  have hi7 : IntKind.i64.wrap ((ep : Int) + every) = (ep : Int) + every := IntWalk.i64_in _ (by omega)
  have HW1 := Lib.hid hW1
  clear hW1 hgc
  go_quiet (fail)
  go_wp2_with fail
  go_ret
  refine ⟨rfl, ?_⟩
  have e0 := HN.out
  clear HN
  subst e0
  exact ⟨rfoot b _, ⟨_, ⟨HW1.out, own_eq HH.out.hl fun k hk => hW2.block k (own_lt HH.out.hl hk).2 (fun e => HH.out.lb (e ▸ hk)), HH.out.hB, HH.out.lb⟩, fun k => Iff.rfl⟩, fun k hk => .inl hk, (hW2.mono fun i hi => .inl (.inl hi)).drewN _⟩

set_option maxHeartbeats 1000000 in
theorem radd_entry_gt (b : Nat) (every n : Nat) (la : Option Addr) (lc : Nat) (lo lp lat : Nat) (o p t : Nat) (B : Nat) (es : List E) (w : World) (hn : n = es.length) (HR : Rf.repV B w b ⟨every, es, true, lo, lp, lat⟩ (.slice la n lc))
    (ep : Nat) (hlast : ∃ g, la = some ⟨g, 0, none⟩ ∧ w.cell? ⟨g, (n - 1) * 3 + 1, none⟩ = some (.int .i64 ep)) (hn0 : 0 < n) (hn1 : n ≤ 1000) (hep : ep ≤ big) (hev : every ≤ 1000000) (h1 : lo < o) (h2 : lp < p) (hlat : lat < t) (hen : (ep : Int) + every ≤ p)
    (hBw : B ≤ w.heap.size) (ho : may (o : Int)) (hp : may (p : Int)) (ht : may (t : Int)) :
    Calls Try.prog 13 #[.pointer (some ⟨b, 0, none⟩), .int .i64 o, .int .i64 p, .int .i64 t] w fun e w' => e = .returned (.int .i64 0) ∧ RfPost B w b (rfoot b (.slice la n lc)) ⟨every, es ++ [⟨o, p, t⟩], true, o, p, t⟩ w' := by
  obtain ⟨g, rfl, hgc⟩ := hlast
  have hb := HR.hb
  have hlt := lt_of_heap hb
  have c0 : w.cell? ⟨b, 0, none⟩ = some (.int .i64 every) := by simp [World.cell?, hb, rfCells]
  have c1 : w.cell? ⟨b, 1, none⟩ = some (.slice (some ⟨g, 0, none⟩) n lc) := by simp [World.cell?, hb, rfCells]
  have c2 : w.cell? ⟨b, 2, none⟩ = some (.bool true) := by simp [World.cell?, hb, rfCells]
  have c3 : w.cell? ⟨b, 3, none⟩ = some (.int .i64 lo) := by simp [World.cell?, hb, rfCells]
  have c4 : w.cell? ⟨b, 4, none⟩ = some (.int .i64 lp) := by simp [World.cell?, hb, rfCells]
  have c5 : w.cell? ⟨b, 5, none⟩ = some (.int .i64 0) := by simp [World.cell?, hb, rfCells]
  have c6 : w.cell? ⟨b, 6, none⟩ = some (.int .i64 lat) := by simp [World.cell?, hb, rfCells]
  have f : ∀ k, w.frozen? ⟨b, k, none⟩ = false := by simp [World.frozen?, hb]
  have f2 := f 2
  have f3 := f 3
  have f4 := f 4
  have f5 := f 5
  have f6 := f 6
  have hq0 : ((n : Int) == 0) = false := by rw [beq_eq_false_iff_ne]; omega
  have hgb : g ≠ b := fun e => HR.lb (by simp [Value.ownBlock, e])
  have hp2 : p ≤ 1099511627776 := by have := hp.2; omega
  have HB := Lib.hid hb
  have HH := Lib.hid HR
  have HN := Lib.hid hn
  clear hb f HR hn
  go_enter Try.func13, Try.ntmps13
  go_wp2_with fail
  refine (may_yes _ ho _).mono ?_
  rintro e w' ⟨rfl, rfl⟩
  go_wp2_with fail
  refine (may_yes _ hp _).mono ?_
  rintro e w' ⟨rfl, rfl⟩
  go_wp2_with fail
  refine (may_yes _ ht _).mono ?_
  rintro e w' ⟨rfl, rfl⟩
  go_wp2_with fail
  have hW1 : (((((w.setCell ⟨b, 6, none⟩ (.int .i64 t)).setCell ⟨b, 2, none⟩ (.bool true)).setCell ⟨b, 3, none⟩ (.int .i64 o)).setCell ⟨b, 4, none⟩ (.int .i64 p)).setCell ⟨b, 5, none⟩ (.int .i64 0)).heap[b]? = some (.cells (rfCells every (.slice (some ⟨g, 0, none⟩) n lc) true o p t) 39 (0, 0)) := by
    rw [heap_setCell_self (heap_setCell_self (heap_setCell_self (heap_setCell_self (heap_setCell_self HB.out _) _) _) _) _]
    rfl
  have hW2 : Fr (fun k => k = b) w (((((w.setCell ⟨b, 6, none⟩ (.int .i64 t)).setCell ⟨b, 2, none⟩ (.bool true)).setCell ⟨b, 3, none⟩ (.int .i64 o)).setCell ⟨b, 4, none⟩ (.int .i64 p)).setCell ⟨b, 5, none⟩ (.int .i64 0)) :=
    Fr.setCell (p := ⟨b, 5, none⟩) (Fr.setCell (p := ⟨b, 4, none⟩) (Fr.setCell (p := ⟨b, 3, none⟩) (Fr.setCell (p := ⟨b, 2, none⟩) (Fr.setCell (p := ⟨b, 6, none⟩) (Fr.refl (fun k => k = b) w) (.inl rfl) (.int .i64 t)) (.inl rfl) (.bool true)) (.inl rfl) (.int .i64 o)) (.inl rfl) (.int .i64 p)) (.inl rfl) (.int .i64 0)
  generalize (((((w.setCell ⟨b, 6, none⟩ (.int .i64 t)).setCell ⟨b, 2, none⟩ (.bool true)).setCell ⟨b, 3, none⟩ (.int .i64 o)).setCell ⟨b, 4, none⟩ (.int .i64 p)).setCell ⟨b, 5, none⟩ (.int .i64 0)) = W at *
  clear c0 c1 c2 c3 c4 c5 c6 f2 f3 f4 f5 f6
  have c0 : W.cell? ⟨b, 0, none⟩ = some (.int .i64 every) := by simp [World.cell?, hW1, rfCells]
  have c1 : W.cell? ⟨b, 1, none⟩ = some (.slice (some ⟨g, 0, none⟩) n lc) := by simp [World.cell?, hW1, rfCells]
  have cg : W.cell? ⟨g, (n - 1) * 3 + 1, none⟩ = some (.int .i64 ep) := hW2.cell hgc hgb
  have hi1 : ((n : Int) - 1).toNat = n - 1 := by omega
  have hi2 : (0 : Int) ≤ (n : Int) - 1 := by omega
  have hj3 : (n : Int) - 1 < n := by omega
  have hi4 : IntKind.i64.wrap ((n : Int) - 1) = (n : Int) - 1 := IntWalk.i64_in _ (by omega)
  have hi5 : (1 : Int) ≤ (n : Int) := by omega
  have hi6 : n - 1 < n := by omega
  unfold big at hep
  have hi7 : IntKind.i64.wrap ((ep : Int) + every) = (ep : Int) + every := IntWalk.i64_in _ (by omega)
  have HW1 := Lib.hid hW1
  clear hW1 hgc
  go_quiet (fail)
  go_wp2_with fail
  have hL : (W.drewN nq).ownsRow B 37 3 (.slice (some ⟨g, 0, none⟩) n lc) n (entCells es) := (by have e0 := HN.out; subst e0; exact own_eq HH.out.hl fun k hk => hW2.block k (own_lt HH.out.hl hk).2 (fun e => HH.out.lb (e ▸ hk)))
  have hF := (hW2.mono (S' := rfoot b (.slice (some ⟨g, 0, none⟩) n lc)) fun i hi => .inl (.inl hi)).drewN nq
  have hX : (W.drewN nq).heap[b]? = _ := HW1.out
  clear HW1 hW2 c0 c1 cg hi1 hi2 hj3 hi4 hi5 hi6 hi7
  generalize W.drewN nq = W8 at *
  have HL := Lib.hid hL
  have HF := Lib.hid hF
  have HX := Lib.hid hX
  clear hL hF hX
  have hx1 : ∀ x : Lcl.InS (fun w' => w'.heap[b]? = some (.cells (rfCells every (.slice (some ⟨g, 0, none⟩) n lc) true o p t) 39 (0, 0))), x.w.cell? ⟨b, 1, none⟩ = some (.slice (some ⟨g, 0, none⟩) n lc) := fun x => by simp [World.cell?, x.h, rfCells]
  have hx6 : ∀ x : Lcl.InS (fun w' => w'.heap[b]? = some (.cells (rfCells every (.slice (some ⟨g, 0, none⟩) n lc) true o p t) 39 (0, 0))), x.w.cell? ⟨b, 6, none⟩ = some (.int .i64 t) := fun x => by simp [World.cell?, x.h, rfCells]
  refine Lcl.wp_region_calm (by kernel_rfl) [(true, [0, 1, 2, 3, 5, 6, 7, 8, 9]), (false, [4, 10]), (true, [11])] #[0, 0, 2, 6, 14, 0, 0, 0, 128, 384, 896, 2016, 4064, 8190, 16383, 32767, 65535] [0, 1, 2, 3, 4, 5, 6, 7, 8, 9, 10, 11, 12] 5 #[true, true, true, true, true, true, true, true, true, true, true, true, false, false, false, false, false] (by kernel_rfl) (by kernel_rfl) (by kernel_rfl) (fun w' => w'.heap[b]? = some (.cells (rfCells every (.slice (some ⟨g, 0, none⟩) n lc) true o p t) 39 (0, 0))) HX.out (fun d c a v w h => by cases d <;> exact h) ?_
  simp only [Lcl.opsOf, List.map_cons, List.map_nil, List.getElem?_toArray, List.getElem?_cons_succ, List.getElem?_cons_zero, Option.getD_some]
  refine Lcl.wpCalm_t ?_
  repeat (go_big_quiet_step (rfl))
  refine wpQuiet_nil ?_
  refine Lcl.wpCalm_f ?_
  repeat (go_big_quiet_step (rfl))
  refine wpQuiet_nil ?_
  refine Lcl.wpCalm_t ?_
  repeat (go_big_quiet_step (rfl))
  refine wpQuiet_nil ?_
  refine Lcl.wpCalm_nil ?_
  clear hx1 hx6
  refine Lcl.wpG_one 12 rfl (by kernel_rfl) ?_
  go_wp2_with fail
  have hlt8 := lt_of_heap HX.out
  refine ⟨fun _ h => (heap_alloc_lt _ hlt8).trans h, ?_⟩
  refine Lcl.wpG_run [13, 14, 15, 16] _ _ _ (by kernel_rfl) ?_
  simp only [List.map_cons, List.map_nil, List.getElem?_toArray, List.getElem?_cons_succ, List.getElem?_cons_zero, Option.getD_some]
  have hcn : ∀ j, ((W8.alloc (.cells #[.int .i64 o, .int .i64 p, .int .i64 t] 37)).drew).cell? ⟨W8.heap.size, j, none⟩ = (#[.int .i64 o, .int .i64 p, .int .i64 t] : Array Value)[j]? := fun j => cell_alloc_new W8 _ 37 j
  have hL2 : ((W8.alloc (.cells #[.int .i64 o, .int .i64 p, .int .i64 t] 37)).drew).ownsRow B 37 3 (.slice (some ⟨g, 0, none⟩) n lc) n (entCells es) := own_eq HL.out (fun i hi => heap_alloc_lt (w := W8) _ (own_lt HL.out hi).2)
  have hF2 : Fr (rfoot b (.slice (some ⟨g, 0, none⟩) n lc)) w (W8.alloc (.cells #[.int .i64 o, .int .i64 p, .int .i64 t] 37)).drew := (HF.out.alloc _).drew
  have hX2 : (W8.alloc (.cells #[.int .i64 o, .int .i64 p, .int .i64 t] 37)).drew.heap[b]? = some (.cells (rfCells every (.slice (some ⟨g, 0, none⟩) n lc) true o p t) 39 (0, 0)) := (heap_alloc_lt (w := W8) _ hlt8).trans HX.out
  clear hlt8
  have HCN := Lib.hid hcn
  have HL2 := Lib.hid hL2
  have HF2 := Lib.hid hF2
  have HX2 := Lib.hid hX2
  clear hcn hL2 hF2 hX2
  obtain ⟨i37, hi37, hz37, hs37, hb37⟩ := info_parts info37
  refine wpList_append_own2 _ rfl (.tmp 102) (.tmp 110) 36 rfl B 37 i37 (.agg #[.int .i64 0, .int .i64 0, .int .i64 0]) 3 24 Try.underlying36 hi37 hz37 hs37 hb37 rfl (by decide) (.slice (some ⟨g, 0, none⟩) n lc) n _ rfl HL2.out ⟨W8.heap.size, 0, none⟩ 1 1 [.int .i64 o, .int .i64 p, .int .i64 t] rfl rfl ?c1 ?c2 ?c3 ?c4 ?c5 ?_
  case c1 =>
    intro j u hj
    have h9 := HCN.out j
    have hadd : (⟨W8.heap.size, 0, none⟩ : Addr).add j = ⟨W8.heap.size, j, none⟩ := by
      unfold Addr.add
      split
      · rename_i h0; rw [h0]
      · simp
    rw [hadd, h9]
    simpa using hj
  case c2 => intro u hu; simp at hu; rcases hu with rfl | rfl | rfl <;> rfl
  case c3 => unfold maxLen; omega
  case c4 => omega
  case c5 => exact Nat.le_trans hBw HF2.out.size
  intro v1 W1 ho1 hg1 hv1
  have hlt2 := lt_of_heap HX2.out
  have hX3 := (hg1.block b hlt2 (fun e => HH.out.lb e.symm)).trans HX2.out
  have hF3 := HF2.out.grown hg1 fun i hi => .inl (.inr hi)
  have hvb : v1.ownBlock ≠ some b := by
    rcases hv1 with e | e <;> rw [e]
    · exact HH.out.lb
    · intro e; injection e with e; omega
  have hvs : ∀ k, v1.ownBlock = some k → rfoot b (.slice (some ⟨g, 0, none⟩) n lc) k ∨ w.heap.size ≤ k := by
    intro k hk
    rcases hv1 with e | e <;> rw [e] at hk
    · exact .inl (.inr hk)
    · injection hk with hk; exact .inr (by rw [← hk]; exact HF2.out.size)
  have hD := rf_done (es := es ++ [⟨o, p, t⟩]) hX3 (by first | exact ho1 | (rw [entCells_snoc]; exact ho1)) (by simp [HN.out]) HH.out.hB hvb (.inl rfl) hvs hF3
  obtain ⟨x1, y1, rfl, -, -⟩ := own_slice ho1
  have k1 : W1.cell? ⟨b, 1, none⟩ = some (.slice (some ⟨g, 0, none⟩) n lc) := by simp [World.cell?, hX3, rfCells]
  have k2 : W1.frozen? ⟨b, 1, none⟩ = false := by simp [World.frozen?, hX3]
  have HD := Lib.hid hD
  clear hD ho1 hg1 hv1 hX3 hF3 hvb hvs hlt2
  simp only [Act.put, List.setIfInBounds_toArray, List.set_cons_zero, List.set_cons_succ]
  go_wp2_with fail
  go_ret
  exact ⟨rfl, HD.out⟩

set_option maxHeartbeats 1000000 in
theorem radd_entry_le (b : Nat) (every n : Nat) (la : Option Addr) (lc : Nat) (lo lp lat : Nat) (o p t : Nat) (B : Nat) (es : List E) (w : World) (hn : n = es.length) (HR : Rf.repV B w b ⟨every, es, true, lo, lp, lat⟩ (.slice la n lc))
    (ep : Nat) (hlast : ∃ g, la = some ⟨g, 0, none⟩ ∧ w.cell? ⟨g, (n - 1) * 3 + 1, none⟩ = some (.int .i64 ep)) (hn0 : 0 < n) (hn1 : n ≤ 1000) (hep : ep ≤ big) (hev : every ≤ 1000000) (h1 : lo < o) (h2 : lp < p) (hlat : t ≤ lat) (hen : (ep : Int) + every ≤ p)
    (hBw : B ≤ w.heap.size) (ho : may (o : Int)) (hp : may (p : Int)) (ht : may (t : Int)) :
    Calls Try.prog 13 #[.pointer (some ⟨b, 0, none⟩), .int .i64 o, .int .i64 p, .int .i64 t] w fun e w' => e = .returned (.int .i64 0) ∧ RfPost B w b (rfoot b (.slice la n lc)) ⟨every, es ++ [⟨o, p, lat⟩], true, o, p, lat⟩ w' := by
  obtain ⟨g, rfl, hgc⟩ := hlast
  have hb := HR.hb
  have hlt := lt_of_heap hb
  have c0 : w.cell? ⟨b, 0, none⟩ = some (.int .i64 every) := by simp [World.cell?, hb, rfCells]
  have c1 : w.cell? ⟨b, 1, none⟩ = some (.slice (some ⟨g, 0, none⟩) n lc) := by simp [World.cell?, hb, rfCells]
  have c2 : w.cell? ⟨b, 2, none⟩ = some (.bool true) := by simp [World.cell?, hb, rfCells]
  have c3 : w.cell? ⟨b, 3, none⟩ = some (.int .i64 lo) := by simp [World.cell?, hb, rfCells]
  have c4 : w.cell? ⟨b, 4, none⟩ = some (.int .i64 lp) := by simp [World.cell?, hb, rfCells]
  have c5 : w.cell? ⟨b, 5, none⟩ = some (.int .i64 0) := by simp [World.cell?, hb, rfCells]
  have c6 : w.cell? ⟨b, 6, none⟩ = some (.int .i64 lat) := by simp [World.cell?, hb, rfCells]
  have f : ∀ k, w.frozen? ⟨b, k, none⟩ = false := by simp [World.frozen?, hb]
  have f2 := f 2
  have f3 := f 3
  have f4 := f 4
  have f5 := f 5
  have f6 := f 6
  have hq0 : ((n : Int) == 0) = false := by rw [beq_eq_false_iff_ne]; omega
  have hgb : g ≠ b := fun e => HR.lb (by simp [Value.ownBlock, e])
  have hp2 : p ≤ 1099511627776 := by have := hp.2; omega
  have HB := Lib.hid hb
  have HH := Lib.hid HR
  have HN := Lib.hid hn
  clear hb f HR hn
  go_enter Try.func13, Try.ntmps13
  go_wp2_with fail
  refine (may_yes _ ho _).mono ?_
  rintro e w' ⟨rfl, rfl⟩
  go_wp2_with fail
  refine (may_yes _ hp _).mono ?_
  rintro e w' ⟨rfl, rfl⟩
  go_wp2_with fail
  refine (may_yes _ ht _).mono ?_
  rintro e w' ⟨rfl, rfl⟩
  go_wp2_with fail
  have hW1 : ((((w.setCell ⟨b, 2, none⟩ (.bool true)).setCell ⟨b, 3, none⟩ (.int .i64 o)).setCell ⟨b, 4, none⟩ (.int .i64 p)).setCell ⟨b, 5, none⟩ (.int .i64 0)).heap[b]? = some (.cells (rfCells every (.slice (some ⟨g, 0, none⟩) n lc) true o p lat) 39 (0, 0)) := by
    rw [heap_setCell_self (heap_setCell_self (heap_setCell_self (heap_setCell_self HB.out _) _) _) _]
    rfl
  have hW2 : Fr (fun k => k = b) w ((((w.setCell ⟨b, 2, none⟩ (.bool true)).setCell ⟨b, 3, none⟩ (.int .i64 o)).setCell ⟨b, 4, none⟩ (.int .i64 p)).setCell ⟨b, 5, none⟩ (.int .i64 0)) :=
    Fr.setCell (p := ⟨b, 5, none⟩) (Fr.setCell (p := ⟨b, 4, none⟩) (Fr.setCell (p := ⟨b, 3, none⟩) (Fr.setCell (p := ⟨b, 2, none⟩) (Fr.refl (fun k => k = b) w) (.inl rfl) (.bool true)) (.inl rfl) (.int .i64 o)) (.inl rfl) (.int .i64 p)) (.inl rfl) (.int .i64 0)
  generalize ((((w.setCell ⟨b, 2, none⟩ (.bool true)).setCell ⟨b, 3, none⟩ (.int .i64 o)).setCell ⟨b, 4, none⟩ (.int .i64 p)).setCell ⟨b, 5, none⟩ (.int .i64 0)) = W at *
  clear c0 c1 c2 c3 c4 c5 c6 f2 f3 f4 f5 f6
  have c0 : W.cell? ⟨b, 0, none⟩ = some (.int .i64 every) := by simp [World.cell?, hW1, rfCells]
  have c1 : W.cell? ⟨b, 1, none⟩ = some (.slice (some ⟨g, 0, none⟩) n lc) := by simp [World.cell?, hW1, rfCells]
  have cg : W.cell? ⟨g, (n - 1) * 3 + 1, none⟩ = some (.int .i64 ep) := hW2.cell hgc hgb
  have hi1 : ((n : Int) - 1).toNat = n - 1 := by omega
  have hi2 : (0 : Int) ≤ (n : Int) - 1 := by omega
  have hj3 : (n : Int) - 1 < n := by omega
  have hi4 : IntKind.i64.wrap ((n : Int) - 1) = (n : Int) - 1 := IntWalk.i64_in _ (by omega)
  have hi5 : (1 : Int) ≤ (n : Int) := by omega
  have hi6 : n - 1 < n := by omega
  unfold big at hep
  have hi7 : IntKind.i64.wrap ((ep : Int) + every) = (ep : Int) + every := IntWalk.i64_in _ (by omega)
  have HW1 := Lib.hid hW1
  clear hW1 hgc
  go_quiet (fail)
  go_wp2_with fail
  have hL : (W.drewN nq).ownsRow B 37 3 (.slice (some ⟨g, 0, none⟩) n lc) n (entCells es) := (by have e0 := HN.out; subst e0; exact own_eq HH.out.hl fun k hk => hW2.block k (own_lt HH.out.hl hk).2 (fun e => HH.out.lb (e ▸ hk)))
  have hF := (hW2.mono (S' := rfoot b (.slice (some ⟨g, 0, none⟩) n lc)) fun i hi => .inl (.inl hi)).drewN nq
  have hX : (W.drewN nq).heap[b]? = _ := HW1.out
  clear HW1 hW2 c0 c1 cg hi1 hi2 hj3 hi4 hi5 hi6 hi7
  generalize W.drewN nq = W8 at *
  have HL := Lib.hid hL
  have HF := Lib.hid hF
  have HX := Lib.hid hX
  clear hL hF hX
  have hx1 : ∀ x : Lcl.InS (fun w' => w'.heap[b]? = some (.cells (rfCells every (.slice (some ⟨g, 0, none⟩) n lc) true o p lat) 39 (0, 0))), x.w.cell? ⟨b, 1, none⟩ = some (.slice (some ⟨g, 0, none⟩) n lc) := fun x => by simp [World.cell?, x.h, rfCells]
  have hx6 : ∀ x : Lcl.InS (fun w' => w'.heap[b]? = some (.cells (rfCells every (.slice (some ⟨g, 0, none⟩) n lc) true o p lat) 39 (0, 0))), x.w.cell? ⟨b, 6, none⟩ = some (.int .i64 lat) := fun x => by simp [World.cell?, x.h, rfCells]
  refine Lcl.wp_region_calm (by kernel_rfl) [(true, [0, 1, 2, 3, 5, 6, 7, 8, 9]), (false, [4, 10]), (true, [11])] #[0, 0, 2, 6, 14, 0, 0, 0, 128, 384, 896, 2016, 4064, 8190, 16383, 32767, 65535] [0, 1, 2, 3, 4, 5, 6, 7, 8, 9, 10, 11, 12] 5 #[true, true, true, true, true, true, true, true, true, true, true, true, false, false, false, false, false] (by kernel_rfl) (by kernel_rfl) (by kernel_rfl) (fun w' => w'.heap[b]? = some (.cells (rfCells every (.slice (some ⟨g, 0, none⟩) n lc) true o p lat) 39 (0, 0))) HX.out (fun d c a v w h => by cases d <;> exact h) ?_
  simp only [Lcl.opsOf, List.map_cons, List.map_nil, List.getElem?_toArray, List.getElem?_cons_succ, List.getElem?_cons_zero, Option.getD_some]
  refine Lcl.wpCalm_t ?_
  repeat (go_big_quiet_step (rfl))
  refine wpQuiet_nil ?_
  refine Lcl.wpCalm_f ?_
  repeat (go_big_quiet_step (rfl))
  refine wpQuiet_nil ?_
  refine Lcl.wpCalm_t ?_
  repeat (go_big_quiet_step (rfl))
  refine wpQuiet_nil ?_
  refine Lcl.wpCalm_nil ?_
  clear hx1 hx6
  refine Lcl.wpG_one 12 rfl (by kernel_rfl) ?_
  go_wp2_with fail
  have hlt8 := lt_of_heap HX.out
  refine ⟨fun _ h => (heap_alloc_lt _ hlt8).trans h, ?_⟩
  refine Lcl.wpG_run [13, 14, 15, 16] _ _ _ (by kernel_rfl) ?_
  simp only [List.map_cons, List.map_nil, List.getElem?_toArray, List.getElem?_cons_succ, List.getElem?_cons_zero, Option.getD_some]
  have hcn : ∀ j, ((W8.alloc (.cells #[.int .i64 o, .int .i64 p, .int .i64 lat] 37)).drew).cell? ⟨W8.heap.size, j, none⟩ = (#[.int .i64 o, .int .i64 p, .int .i64 lat] : Array Value)[j]? := fun j => cell_alloc_new W8 _ 37 j
  have hL2 : ((W8.alloc (.cells #[.int .i64 o, .int .i64 p, .int .i64 lat] 37)).drew).ownsRow B 37 3 (.slice (some ⟨g, 0, none⟩) n lc) n (entCells es) := own_eq HL.out (fun i hi => heap_alloc_lt (w := W8) _ (own_lt HL.out hi).2)
  have hF2 : Fr (rfoot b (.slice (some ⟨g, 0, none⟩) n lc)) w (W8.alloc (.cells #[.int .i64 o, .int .i64 p, .int .i64 lat] 37)).drew := (HF.out.alloc _).drew
  have hX2 : (W8.alloc (.cells #[.int .i64 o, .int .i64 p, .int .i64 lat] 37)).drew.heap[b]? = some (.cells (rfCells every (.slice (some ⟨g, 0, none⟩) n lc) true o p lat) 39 (0, 0)) := (heap_alloc_lt (w := W8) _ hlt8).trans HX.out
  clear hlt8
  have HCN := Lib.hid hcn
  have HL2 := Lib.hid hL2
  have HF2 := Lib.hid hF2
  have HX2 := Lib.hid hX2
  clear hcn hL2 hF2 hX2
  obtain ⟨i37, hi37, hz37, hs37, hb37⟩ := info_parts info37
  refine wpList_append_own2 _ rfl (.tmp 102) (.tmp 110) 36 rfl B 37 i37 (.agg #[.int .i64 0, .int .i64 0, .int .i64 0]) 3 24 Try.underlying36 hi37 hz37 hs37 hb37 rfl (by decide) (.slice (some ⟨g, 0, none⟩) n lc) n _ rfl HL2.out ⟨W8.heap.size, 0, none⟩ 1 1 [.int .i64 o, .int .i64 p, .int .i64 lat] rfl rfl ?c1 ?c2 ?c3 ?c4 ?c5 ?_
  case c1 =>
    intro j u hj
    have h9 := HCN.out j
    have hadd : (⟨W8.heap.size, 0, none⟩ : Addr).add j = ⟨W8.heap.size, j, none⟩ := by
      unfold Addr.add
      split
      · rename_i h0; rw [h0]
      · simp
    rw [hadd, h9]
    simpa using hj
  case c2 => intro u hu; simp at hu; rcases hu with rfl | rfl | rfl <;> rfl
  case c3 => unfold maxLen; omega
  case c4 => omega
  case c5 => exact Nat.le_trans hBw HF2.out.size
  intro v1 W1 ho1 hg1 hv1
  have hlt2 := lt_of_heap HX2.out
  have hX3 := (hg1.block b hlt2 (fun e => HH.out.lb e.symm)).trans HX2.out
  have hF3 := HF2.out.grown hg1 fun i hi => .inl (.inr hi)
  have hvb : v1.ownBlock ≠ some b := by
    rcases hv1 with e | e <;> rw [e]
    · exact HH.out.lb
    · intro e; injection e with e; omega
  have hvs : ∀ k, v1.ownBlock = some k → rfoot b (.slice (some ⟨g, 0, none⟩) n lc) k ∨ w.heap.size ≤ k := by
    intro k hk
    rcases hv1 with e | e <;> rw [e] at hk
    · exact .inl (.inr hk)
    · injection hk with hk; exact .inr (by rw [← hk]; exact HF2.out.size)
  have hD := rf_done (es := es ++ [⟨o, p, lat⟩]) hX3 (by first | exact ho1 | (rw [entCells_snoc]; exact ho1)) (by simp [HN.out]) HH.out.hB hvb (.inl rfl) hvs hF3
  obtain ⟨x1, y1, rfl, -, -⟩ := own_slice ho1
  have k1 : W1.cell? ⟨b, 1, none⟩ = some (.slice (some ⟨g, 0, none⟩) n lc) := by simp [World.cell?, hX3, rfCells]
  have k2 : W1.frozen? ⟨b, 1, none⟩ = false := by simp [World.frozen?, hX3]
  have HD := Lib.hid hD
  clear hD ho1 hg1 hv1 hX3 hF3 hvb hvs hlt2
  simp only [Act.put, List.setIfInBounds_toArray, List.set_cons_zero, List.set_cons_succ]
  go_wp2_with fail
  go_ret
  exact ⟨rfl, HD.out⟩

end Go.Proofs.Ytfogmmanebflpaa
