/- Append to a segment: the walk. -/
import Derived.Test.YtgbcdgfpmihkcaaDoorG4
namespace Go.Proofs.YtgbcdgfpmihkcaaDoor
open Go.RowKit Go.Fm Go.BigFrame Go.Shelf Go.Maps
set_option linter.unusedVariables false
set_option linter.unusedSimpArgs false
set_option maxRecDepth 100000

open Classical in
noncomputable def apCode (s : Seg) (b : Bat) (room used fuse : Int) : Int := if BatOK b ∧ s.end' ≤ b.base then appCode room used fuse (bsz b) else 1
/-- Behind an append: the segment has one batch more, and the disk its bytes; or nothing has turned. -/
def SAppOK (B : Nat) (w : World) (sb db mb : Nat) (nm : ByteArray) (s : Seg) (S : Nat → Prop) (b : Bat) (room used fuse : Int) (L : List Row) (F : ByteArray → ByteArray × Nat) (w' : World) : Prop :=
  ∃ (S' : Nat → Prop) (L' : List Row), Sg B w' sb db nm (s.push b) S' ∧ Dk w' db mb room (used + bsz b) (burn fuse) L' (updF F nm ((curF L F nm).1 ++ batS b) (curF L F nm).2) ∧
    ((∃ fb, getL L nm = some fb) → L' = L) ∧ (getL L nm = none → ∃ fb, L' = putR L nm fb) ∧
    (∀ i, S' i → ¬ DkS db mb L' i) ∧ (∀ i, S' i → S i ∨ (w.heap.size ≤ i ∧ i < w'.heap.size)) ∧ (∀ i, DkS db mb L' i → DkS db mb L i ∨ (w.heap.size ≤ i ∧ i < w'.heap.size)) ∧ Fr (fun i => S i ∨ DkS db mb L i) w w'
def SAppPost (B : Nat) (w : World) (sb db mb : Nat) (nm : ByteArray) (s : Seg) (S : Nat → Prop) (b : Bat) (room used fuse : Int) (L : List Row) (F : ByteArray → ByteArray × Nat) (e : Ending) (w' : World) : Prop :=
  e = .returned (.int .i64 (apCode s b room used fuse)) ∧ (apCode s b room used fuse = 0 → SAppOK B w sb db mb nm s S b room used fuse L F w') ∧ (apCode s b room used fuse ≠ 0 → Fr (fun _ => False) w w')
theorem bsz_le {b : Bat} (h : BatOK b) : bsz b ≤ 60008 := by
  unfold bsz; rw [batS_size]; have := h.body; omega
set_option maxHeartbeats 16000000 in
theorem sappend_walk {B : Nat} {w : World} {sb db mb : Nat} {nm : ByteArray} {s : Seg} {S : Nat → Prop} (h : Sg B w sb db nm s S) {room used fuse : Int} {L : List Row} {F : ByteArray → ByteArray × Nat} (hd : Dk w db mb room used fuse L F) (ho : DkOK room used fuse L F)
    (hap : ∀ i, S i → ¬ DkS db mb L i) (hSl : ∀ i, S i → i < w.heap.size) (h1 : 1 ≤ nm.size) (h2 : nm.size ≤ 40) (hl : L.length < 1000) (hroom : room ≤ 4194304) (hc : ∀ r ∈ L, (F r.1).1.size ≤ 4194304)
    (K : Nat → Prop) (hK : ∀ k, K k → ¬ DkS db mb L k) (b : Bat) (v : Value) (hr : RecsR K w v b.recs) (hst : StepsOK w) (hst0 : ∀ i, (S i ∨ DkS db mb L i) → i ≠ 0) (hn : s.l.length < 800) (hsum : sumB s.l ≤ 900000000) (hB : B ≤ w.heap.size) :
    Calls Tryd.prog 8 #[.pointer (some ⟨sb, 0, none⟩), batV b v] w (SAppPost B w sb db mb nm s S b room used fuse L F) := by
  obtain ⟨bv, ib, hb⟩ := h.cells
  have hh := hr
  obtain ⟨ra, rcap, rfl, -⟩ := hh
  have hf0 := (Fr.same w).alloc (.cells (batBox b (.slice ra b.recs.length rcap)) 24)
  have hx0 : (w.alloc (.cells (batBox b (.slice ra b.recs.length rcap)) 24)).heap[w.heap.size]? = some (.cells (batBox b (.slice ra b.recs.length rcap)) 24 (0, 0)) := heap_alloc_self _ _
  have F0 := Lib.hid hf0
  have X0 := Lib.hid hx0
  have HE := Lib.hid (bencode_walk K b (.slice ra b.recs.length rcap) (w.alloc (.cells (batBox b (.slice ra b.recs.length rcap)) 24)) (hr.old hf0) (hst.old hf0))
  have O0 := Lib.hid ((hf0.block _ (lt_of_heap hb) fun h => h).trans hb)
  have HR := Lib.hid hr
  have HK := Lib.hid hK
  have HS := Lib.hid h
  have HD := Lib.hid hd
  have HO := Lib.hid ho
  have HAP := Lib.hid hap
  have HSL := Lib.hid hSl
  have HC := Lib.hid hc
  have HST := Lib.hid hst
  have HS0 := Lib.hid hst0
  clear hf0 hx0 hr hK h hd ho hap hSl hc hst hst0 hb
  unfold batV at HE
  unfold batV
  unfold batBox at F0 X0 HE O0
  go_enter Tryd.func8, Tryd.ntmps8
  go_wp2_with fail
  generalize (w.alloc (.cells #[.int .i64 b.base, .int .i64 b.span, .int .i64 b.prod, .int .i64 b.epoch, .int .i64 b.seq, .slice ra b.recs.length rcap] 24)) = W at *
  refine HE.out.mono ?_
  rintro e w1 ⟨⟨hok, rfl⟩ | ⟨hno, rfl⟩, hf⟩
  · have F1 := Lib.hid (F0.out.tr hf)
    have X1 := Lib.hid ((hf.block _ (lt_of_heap X0.out) fun h => h).trans X0.out)
    have O1 := Lib.hid ((hf.block _ (lt_of_heap O0.out) fun h => h).trans O0.out)
    have OKB := Lib.hid hok
    clear hf hok F0 X0 O0 HE
    have d0 : w1.cell? ⟨w.heap.size, 0, none⟩ = some (.int .i64 b.base) := (cell_of X1.out 0).trans rfl
    have d3 : w1.cell? ⟨sb, 3, none⟩ = some (.int .i64 s.end') := (cell_of O1.out 3).trans rfl
    by_cases hlow : b.base < s.end'
    · have hcode : apCode s b room used fuse = 1 := by
        unfold apCode; rw [if_neg (fun h => by have := h.2; omega)]
      have HCD := Lib.hid hcode
      clear hcode
      go_wp2_with fail
      go_quiet (fail)
      have F2 := Lib.hid (F1.out.drewN nq)
      go_wp2_with fail
      go_ret
      exact ⟨by rw [HCD.out]; rfl, fun h => (by rw [HCD.out] at h; cases h), fun _ => F2.out⟩
    · have hge : s.end' ≤ b.base := by omega
      have hcode : apCode s b room used fuse = appCode room used fuse (bsz b) := by
        unfold apCode; rw [if_pos ⟨OKB.out, hge⟩]
      have HCD := Lib.hid hcode
      have HGE := Lib.hid hge
      clear hcode hge
      go_wp2_with fail
      go_quiet (fail)
      have F2 := Lib.hid (F1.out.drewN nq)
      have X2 := Lib.hid (show (w1.drewN nq).heap[w.heap.size]? = _ from X1.out)
      have O2 := Lib.hid (show (w1.drewN nq).heap[sb]? = _ from O1.out)
      clear d0 d3 F1 X1 O1
      generalize w1.drewN nq = W2 at *
      have x0 : ∀ y : Lcl.InS (fun w' => Fr (fun _ => False) W2 w'), y.w.cell? ⟨sb, 0, none⟩ = some (.pointer (some ⟨db, 0, none⟩)) := fun y => y.h.cel ((cell_of O2.out 0).trans rfl)
      have x1 : ∀ y : Lcl.InS (fun w' => Fr (fun _ => False) W2 w'), y.w.cell? ⟨sb, 1, none⟩ = some (.string nm) := fun y => y.h.cel ((cell_of O2.out 1).trans rfl)
      go_wp2_with fail
      refine Lcl.wp_region_calm (by kernel_rfl) [(true, [0, 1, 2, 4, 5, 6, 8]), (false, [3, 7])] #[0, 1, 3, 7, 0, 16, 48, 112, 0, 511, 1023] [0, 1, 2, 3, 4, 5, 6, 7, 8] 2 #[true, true, true, true, true, true, true, true, true, false, false] (by kernel_rfl) (by kernel_rfl) (by kernel_rfl) (fun w' => Fr (fun _ => False) W2 w') (Fr.same W2).drew (fun d c a v w h => by cases d <;> exact h) ?_
      simp only [Lcl.opsOf, List.map_cons, List.map_nil, List.getElem?_toArray, List.getElem?_cons_succ, List.getElem?_cons_zero, Option.getD_some]
      refine Lcl.wpCalm_t ?_
      repeat (go_big_quiet_step (rfl))
      refine wpQuiet_nil ?_
      refine Lcl.wpCalm_f ?_
      repeat (go_big_quiet_step (rfl))
      refine wpQuiet_nil ?_
      refine Lcl.wpCalm_nil ?_
      clear x0 x1
      refine Lcl.wpG_run [9, 10] _ _ _ (by kernel_rfl) ?_
      simp only [List.map_cons, List.map_nil, List.getElem?_toArray, List.getElem?_cons_succ, List.getElem?_cons_zero, Option.getD_some]
      have F3 := Lib.hid (F2.out.drew)
      have X3 := Lib.hid (show W2.drew.heap[w.heap.size]? = _ from X2.out)
      have hbz := bsz_le OKB.out
      have HA := Lib.hid (dappend_any (HD.out.old F3.out) HO.out nm (batS b) h1 h2 (by unfold bsz at hbz; omega) hl hroom HC.out)
      clear F2 X2 O2
      generalize W2.drew = W3 at *
      unfold DAppPost at HA
      have hcc : appCode room used fuse (bsz b) = appCode room used fuse (batS b).size := rfl
      rw [hcc] at HCD
      clear hcc
      by_cases hc0 : appCode room used fuse (batS b).size = 0
      · rw [hc0] at HA HCD
        clear hc0
        go_wp2_with fail
        refine HA.out.mono ?_
        rintro e w4 ⟨rfl, hdk, -⟩
        obtain ⟨L', hd4, hl1, hl2, hl3, hf4⟩ := hdk trivial
        have D4 := Lib.hid hd4
        have HL1 := Lib.hid hl1
        have HL2 := Lib.hid hl2
        have HL3 := Lib.hid hl3
        have G4 := Lib.hid hf4
        have hnd : ¬ DkS db mb L w.heap.size := fun h => by have := HD.out.lt h; omega
        have hx4 := (hf4.block _ (lt_of_heap X3.out) hnd).trans X3.out
        have c0 : w4.cell? ⟨w.heap.size, 0, none⟩ = some (.int .i64 b.base) := (cell_of hx4 0).trans rfl
        have c1 : w4.cell? ⟨w.heap.size, 1, none⟩ = some (.int .i64 b.span) := (cell_of hx4 1).trans rfl
        have c2 : w4.cell? ⟨w.heap.size, 2, none⟩ = some (.int .i64 b.prod) := (cell_of hx4 2).trans rfl
        have c3 : w4.cell? ⟨w.heap.size, 3, none⟩ = some (.int .i64 b.epoch) := (cell_of hx4 3).trans rfl
        have c4 : w4.cell? ⟨w.heap.size, 4, none⟩ = some (.int .i64 b.seq) := (cell_of hx4 4).trans rfl
        have c5 : w4.cell? ⟨w.heap.size, 5, none⟩ = some (.slice ra b.recs.length rcap) := (cell_of hx4 5).trans rfl
        have HR4 := Lib.hid ((HR.out.old F3.out).fr hf4 HK.out)
        have HS4 := Lib.hid ((HS.out.old F3.out).fr hf4 HAP.out)
        have hrl := OKB.out.len
        have hrh : ∀ r ∈ b.recs, r.hs.length ≤ 1000 := fun r hr => by
          obtain ⟨k, hk⟩ := List.getElem?_of_mem hr
          have := (OKB.out.recs k r hk).ok.hs
          omega
        have HRH := Lib.hid hrh
        clear hd4 hl1 hl2 hl3 hf4 hnd hx4 hdk HA X3 hrh
        go_wp2_with fail
        refine (copied_walk K b _ _ HR4.out (by omega) HRH.out).mono ?_
        rintro e w5 ⟨rv, rfl, hr5, hf5⟩
        have one5 := recs_one hr5
        have HS5 := Lib.hid (HS4.out.old hf5)
        have HR5 := Lib.hid (hr5.mono (K' := fun k => w4.heap.size ≤ k ∧ k < w5.heap.size) fun k hk hl => ⟨hk, hl⟩)
        have F5 := Lib.hid hf5
        have hsz3 := F3.out.size
        have hsz4 := G4.out.size
        have hsz5 := hf5.size
        have hKb : ∀ k, (w4.heap.size ≤ k ∧ k < w5.heap.size) → B ≤ k ∧ k < w5.heap.size ∧ ¬ S k := fun k hk => ⟨by omega, hk.2, fun h => by have := HSL.out k h; omega⟩
        have HN := Lib.hid (note_walk HS5.out b rv _ OKB.out HGE.out HR5.out hKb hn (by omega) (by omega))
        obtain ⟨ra5, rcap5, hrv⟩ : ∃ a c, rv = .slice a b.recs.length c := by obtain ⟨a, c, h, -⟩ := HR5.out; exact ⟨a, c, h⟩
        subst hrv
        have hbsz : (batS b).size = bsz b := rfl
        have HB := Lib.hid hbsz
        clear hr5 hf5 hKb c0 c1 c2 c3 c4 c5 one5 hbsz hsz3 hsz4 hsz5
        unfold batV at HN
        unfold batV
        go_wp2_with fail
        refine HN.out.mono ?_
        rintro e w6 ⟨rfl, hsg, hf6⟩
        have HSG := Lib.hid hsg
        have F6 := Lib.hid hf6
        clear hsg hf6 HN
        go_wp2_with fail
        go_ret
        have hsz3 := F3.out.size
        have hsz4 := G4.out.size
        have hsz5 := F5.out.size
        have hsz6 := F6.out.size
        have hDlt : ∀ i, DkS db mb L i → i < w.heap.size := fun i h => HD.out.lt h
        have hSn : ∀ i, (S i ∨ w4.heap.size ≤ i ∧ i < w5.heap.size) → ¬ DkS db mb L' i := fun i hi h => by
          rcases HL3.out i h with h | h
          · rcases hi with hi | hi
            · exact HAP.out i hi h
            · have := hDlt i h; omega
          · rcases hi with hi | hi
            · have := HSL.out i hi; omega
            · omega
        refine ⟨by rw [HCD.out]; rfl, fun _ => ⟨_, L', HSG.out, ?_, HL1.out, HL2.out, fun i hi h => ?_, fun i hi => ?_, fun i hi => ?_, ?_⟩, fun h => (h HCD.out).elim⟩
        · rw [← HB.out]
          exact (D4.out.old F5.out).fr F6.out fun i hi h => hSn i h hi
        · rcases hi with hi | hi
          · exact hSn i hi h
          · rcases HL3.out i h with h | h
            · have := hDlt i h; omega
            · omega
        · rcases hi with (hi | hi) | hi
          · exact .inl hi
          · exact .inr ⟨by omega, by omega⟩
          · exact .inr ⟨by omega, by omega⟩
        · rcases HL3.out i hi with h | h
          · exact .inl h
          · exact .inr ⟨by omega, by omega⟩
        · have g1 : Fr (fun i => S i ∨ DkS db mb L i) w w4 := (F3.out.mono (S' := fun i => S i ∨ DkS db mb L i) fun _ h => h.elim).trans G4.out fun i h => .inl (.inr h)
          exact (g1.trans F5.out fun _ h => h.elim).trans F6.out fun i h => by
            rcases h with h | h
            · exact .inl (.inl h)
            · exact .inr (by omega)
      · have q1 : (appCode room used fuse (batS b).size != 0) = true := by simpa using hc0
        have q2 : (appCode room used fuse (batS b).size == 0) = false := by simpa using hc0
        have HC0 := Lib.hid hc0
        clear hc0
        generalize appCode room used fuse (batS b).size = c at *
        go_wp2_with fail
        refine HA.out.mono ?_
        rintro e w4 ⟨rfl, -, hfr⟩
        have F4 := Lib.hid (F3.out.tr (hfr HC0.out))
        clear hfr HA
        go_wp2_with fail
        go_ret
        exact ⟨by rw [HCD.out]; rfl, fun h => (HC0.out (HCD.out.symm.trans h)).elim, fun _ => F4.out⟩
  · have F1 := Lib.hid (F0.out.tr hf)
    have hcode : apCode s b room used fuse = 1 := by
      unfold apCode; rw [if_neg (fun h => hno h.1)]
    have HCD := Lib.hid hcode
    clear hf hno hcode
    go_wp2_with fail
    go_quiet (fail)
    have F2 := Lib.hid (F1.out.drewN nq)
    go_wp2_with fail
    go_ret
    exact ⟨by rw [HCD.out]; rfl, fun h => (by rw [HCD.out] at h; cases h), fun _ => F2.out⟩
end Go.Proofs.YtgbcdgfpmihkcaaDoor
