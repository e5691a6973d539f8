/- A log's start file read; the walk. -/
import Derived.Test.YtdlnafhhkpklmaaGreatDoorPT
namespace Go.Proofs.YtdlnafhhkpklmaaGreatDoor
open Go.RowKit Go.Fm Go.BigFrame Go.Shelf Go.Maps
set_option linter.unusedVariables false
set_option linter.unusedSimpArgs false
set_option maxRecDepth 100000

section
variable {B : Nat} {w w' : World} {lb db mb : Nat} {p : ByteArray} {lim ev : Nat} {beg : Int} {L : List Row} {S : Nat → Prop} {room used fuse : Int} {F : ByteArray → ByteArray × Nat} {sv : Value}
theorem startS_size (p : ByteArray) : (startS p).size = p.size + 6 := by unfold startS; rw [ByteArray.size_append]; rfl
theorem freshS_size (p : ByteArray) : (freshS p).size = p.size + 4 := by unfold freshS; rw [ByteArray.size_append]; rfl
theorem swapS_size (p : ByteArray) : (swapS p).size = p.size + 5 := by unfold swapS; rw [ByteArray.size_append]; rfl
theorem rdstart_none (hb : w.heap[lb]? = some (lgObj p lim ev db beg sv)) (hd : Dk w db mb room used fuse L F) (hfu : fuse ≠ 0) (hp : p.size ≤ 20) (hg : getL L (startS p) = none) :
    Calls Tryz.prog 40 #[.pointer (some ⟨lb, 0, none⟩)] w fun e w' => e = .returned (.int .i64 0) ∧ Fr (fun _ => False) w w' := by
  have z0 : ∀ y : Lcl.InS (fun w' => Fr (fun _ => False) w w'), y.w.cell? ⟨lb, 0, none⟩ = some (.string p) := fun y => y.h.cel ((cell_of hb 0).trans rfl)
  have z1 : ∀ y : Lcl.InS (fun w' => Fr (fun _ => False) w w'), y.w.cell? ⟨lb, 1, none⟩ = some (.int .i64 lim) := fun y => y.h.cel ((cell_of hb 1).trans rfl)
  have z2 : ∀ y : Lcl.InS (fun w' => Fr (fun _ => False) w w'), y.w.cell? ⟨lb, 2, none⟩ = some (.int .i64 ev) := fun y => y.h.cel ((cell_of hb 2).trans rfl)
  have z3 : ∀ y : Lcl.InS (fun w' => Fr (fun _ => False) w w'), y.w.cell? ⟨lb, 3, none⟩ = some (.pointer (some ⟨db, 0, none⟩)) := fun y => y.h.cel ((cell_of hb 3).trans rfl)
  have hst := start_walk p lim ev w.drew hp
  unfold cfgV at hst
  have HST := Lib.hid hst
  have HD := Lib.hid hd
  have hml : (startS p).size ≤ maxLen := by rw [startS_size]; unfold maxLen; omega
  have HML := Lib.hid hml
  have HG := Lib.hid hg
  clear hst hd hml hg hb
  go_enter Tryz.func40, Tryz.ntmps40
  go_wp2_with fail
  refine Lcl.wp_region_calm (by kernel_rfl) [(true, [0, 1, 2, 4, 5, 6]), (false, [3, 7])] #[0, 1, 3, 7, 0, 16, 48, 112, 240, 511, 1023, 2047, 2047, 4095, 16383] [0, 1, 2, 3, 4, 5, 6, 7, 8] 7 #[true, true, true, true, true, true, true, true, false, false, false, false, false, false, false] (by kernel_rfl) (by kernel_rfl) (by kernel_rfl) (fun w' => Fr (fun _ => False) w w') (Fr.same w).drew (fun d c a v w h => by cases d <;> exact h) ?_
  simp only [Lcl.opsOf, List.map_cons, List.map_nil, List.getElem?_toArray, List.getElem?_cons_succ, List.getElem?_cons_zero, Option.getD_some]
  refine Lcl.wpCalm_t ?_
  repeat (go_big_quiet_step (rfl))
  refine wpQuiet_nil ?_
  refine Lcl.wpCalm_f ?_
  repeat (go_big_quiet_step (rfl))
  refine wpQuiet_nil ?_
  refine Lcl.wpCalm_nil ?_
  clear z0 z1 z2 z3
  refine Lcl.wpG_one 8 rfl (by kernel_rfl) ?_
  go_wp2_with fail
  refine HST.out.mono ?_
  rintro e w1 ⟨rfl, hf⟩
  have F1 := Lib.hid ((Fr.same w).drew.tr hf)
  clear hf HST
  go_wp2_with fail
  refine ⟨fun _ _ => F1.out, ?_⟩
  refine Lcl.wpG_one 9 rfl (by kernel_rfl) ?_
  go_wp2_with fail
  refine (dread_none (HD.out.old F1.out) hfu (startS p) HML.out HG.out).mono ?_
  rintro e w2 ⟨rfl, rfl⟩
  go_wp2_with fail
  refine ⟨fun h => absurd h (by decide), ?_⟩
  refine Lcl.wpG_one 10 rfl (by kernel_rfl) ?_
  go_wp2_with fail
  refine ⟨fun h => absurd h (by decide), ?_⟩
  refine Lcl.wpG_calm (m := #[0, 1, 3, 7, 0, 16, 48, 112, 240, 511, 1023, 2047, 2047, 4095, 16383]) (needs := [0, 1, 2, 3, 4, 5, 6, 7, 8]) (fuel := 0) (by kernel_rfl) ?hqA (F1.out) [(true, [11, 12, 13, 14])] _ _ ?k1A ?k2A ?k3A ?k4A
  case hqA => exact fun d c a v w h => by cases d <;> exact h
  case k1A => kernel_rfl
  case k2A => rfl
  case k3A => kernel_rfl
  simp only [Lcl.opsOf, List.map_cons, List.map_nil, List.getElem?_toArray, List.getElem?_cons_succ, List.getElem?_cons_zero, Option.getD_some]
  refine Lcl.wpCalm_t ?_
  repeat (go_big_quiet_step (rfl))
  refine wpQuiet_nil ?_
  refine Lcl.wpCalm_nil ?_
  refine Lcl.wpG_run [] _ _ _ (by kernel_rfl) ?_
  simp only [List.map_cons, List.map_nil, List.getElem?_toArray, List.getElem?_cons_succ, List.getElem?_cons_zero, Option.getD_some]
  go_wp2_with fail
  go_ret
  exact ⟨rfl, F1.out⟩
theorem rdstart_some (hb : w.heap[lb]? = some (lgObj p lim ev db beg sv)) (hd : Dk w db mb room used fuse L F) (hfu : fuse ≠ 0) (hp : p.size ≤ 20) (hg : (getL L (startS p)).isSome = true) (n : Nat) (hn : n ≤ 1099511627776) (hF : (F (startS p)).1 = fix8 n) :
    Calls Tryz.prog 40 #[.pointer (some ⟨lb, 0, none⟩)] w fun e w' => e = .returned (.int .i64 0) ∧ w'.heap[lb]? = some (lgObj p lim ev db n sv) ∧ Fr (fun i => i = lb) w w' := by
  have z0 : ∀ y : Lcl.InS (fun w' => Fr (fun _ => False) w w'), y.w.cell? ⟨lb, 0, none⟩ = some (.string p) := fun y => y.h.cel ((cell_of hb 0).trans rfl)
  have z1 : ∀ y : Lcl.InS (fun w' => Fr (fun _ => False) w w'), y.w.cell? ⟨lb, 1, none⟩ = some (.int .i64 lim) := fun y => y.h.cel ((cell_of hb 1).trans rfl)
  have z2 : ∀ y : Lcl.InS (fun w' => Fr (fun _ => False) w w'), y.w.cell? ⟨lb, 2, none⟩ = some (.int .i64 ev) := fun y => y.h.cel ((cell_of hb 2).trans rfl)
  have z3 : ∀ y : Lcl.InS (fun w' => Fr (fun _ => False) w w'), y.w.cell? ⟨lb, 3, none⟩ = some (.pointer (some ⟨db, 0, none⟩)) := fun y => y.h.cel ((cell_of hb 3).trans rfl)
  have hst := start_walk p lim ev w.drew hp
  unfold cfgV at hst
  obtain ⟨fb, hg⟩ := Option.isSome_iff_exists.1 hg
  have hrd : ∀ w1, Fr (fun _ => False) w w1 → Calls Tryz.prog 73 #[.pointer (some ⟨db, 0, none⟩), .string (startS p)] w1 fun e w' => e = .returned (.tuple #[.string (fix8 n), .int .i64 0]) ∧ w' = w1 := fun w1 hf => by
    have h1 := dread_some (hd.old hf) hfu (startS p) (by rw [startS_size]; unfold maxLen; omega) hg
    rw [hF] at h1
    exact h1
  have hr8 := fun w1 => read8_walk (fix8 n) w1 rfl (by rw [fix8_be n (by omega)]; omega)
  rw [fix8_be n (by omega)] at hr8
  have HST := Lib.hid hst
  have HRD := Lib.hid hrd
  have HR8 := Lib.hid hr8
  have HB := Lib.hid hb
  have hfs : (fix8 n).size = 8 := rfl
  clear hst hd hg hb hrd hr8
  go_enter Tryz.func40, Tryz.ntmps40
  go_wp2_with fail
  refine Lcl.wp_region_calm (by kernel_rfl) [(true, [0, 1, 2, 4, 5, 6]), (false, [3, 7])] #[0, 1, 3, 7, 0, 16, 48, 112, 240, 511, 1023, 2047, 2047, 4095, 16383] [0, 1, 2, 3, 4, 5, 6, 7, 8] 7 #[true, true, true, true, true, true, true, true, false, false, false, false, false, false, false] (by kernel_rfl) (by kernel_rfl) (by kernel_rfl) (fun w' => Fr (fun _ => False) w w') (Fr.same w).drew (fun d c a v w h => by cases d <;> exact h) ?_
  simp only [Lcl.opsOf, List.map_cons, List.map_nil, List.getElem?_toArray, List.getElem?_cons_succ, List.getElem?_cons_zero, Option.getD_some]
  refine Lcl.wpCalm_t ?_
  repeat (go_big_quiet_step (rfl))
  refine wpQuiet_nil ?_
  refine Lcl.wpCalm_f ?_
  repeat (go_big_quiet_step (rfl))
  refine wpQuiet_nil ?_
  refine Lcl.wpCalm_nil ?_
  clear z0 z1 z2 z3
  refine Lcl.wpG_one 8 rfl (by kernel_rfl) ?_
  go_wp2_with fail
  refine HST.out.mono ?_
  rintro e w1 ⟨rfl, hf⟩
  have F1 := Lib.hid ((Fr.same w).drew.tr hf)
  clear hf HST
  go_wp2_with fail
  refine ⟨fun _ _ => F1.out, ?_⟩
  refine Lcl.wpG_one 9 rfl (by kernel_rfl) ?_
  go_wp2_with fail
  refine (HRD.out _ F1.out).mono ?_
  rintro e w2 ⟨rfl, rfl⟩
  go_wp2_with fail
  refine ⟨fun h => absurd h (by decide), ?_⟩
  refine Lcl.wpG_one 10 rfl (by kernel_rfl) ?_
  go_wp2_with fail
  refine ⟨fun h => absurd h (by decide), ?_⟩
  refine Lcl.wpG_calm (m := #[0, 1, 3, 7, 0, 16, 48, 112, 240, 511, 1023, 2047, 2047, 4095, 16383]) (needs := [0, 1, 2, 3, 4, 5, 6, 7, 8]) (fuel := 0) (by kernel_rfl) ?hqA (F1.out) [(true, [11, 12, 13, 14])] _ _ ?k1A ?k2A ?k3A ?k4A
  case hqA => exact fun d c a v w h => by cases d <;> exact h
  case k1A => kernel_rfl
  case k2A => rfl
  case k3A => kernel_rfl
  simp only [Lcl.opsOf, List.map_cons, List.map_nil, List.getElem?_toArray, List.getElem?_cons_succ, List.getElem?_cons_zero, Option.getD_some]
  refine Lcl.wpCalm_t ?_
  repeat (go_big_quiet_step (rfl))
  refine wpQuiet_nil ?_
  refine Lcl.wpCalm_nil ?_
  refine Lcl.wpG_run [] _ _ _ (by kernel_rfl) ?_
  simp only [List.map_cons, List.map_nil, List.getElem?_toArray, List.getElem?_cons_succ, List.getElem?_cons_zero, Option.getD_some]
  go_wp2_with fail
  refine (HR8.out _).mono ?_
  rintro e w3 ⟨rfl, hf⟩
  have F3 := Lib.hid (F1.out.tr hf)
  have hb3 := ((F3.out).block _ (lt_of_heap HB.out) fun h => h).trans HB.out
  have HB3 := Lib.hid hb3
  have k2 : w3.cell? ⟨lb, 4, none⟩ = some (.int .i64 beg) := (cell_of hb3 4).trans rfl
  have f2 := fz_of hb3 4
  have hbg : ¬ (1099511627776 : Int) < n := by omega
  clear hf hb3
  go_wp2_with fail
  go_ret
  refine ⟨rfl, ?_, Fr.setCell (S := fun i => i = lb) (p := ⟨lb, 4, none⟩) (F3.out.mono fun i h => h.elim) (.inl rfl) _⟩
  rw [heap_setCell_self HB3.out]
  rfl
end
end Go.Proofs.YtdlnafhhkpklmaaGreatDoor

/- A log's first segments let go: laws, and the walk of trim. -/
namespace Go.Proofs.YtdlnafhhkpklmaaGreatDoor
open Go.RowKit Go.Fm Go.BigFrame Go.Shelf Go.Maps
set_option linter.unusedVariables false
set_option linter.unusedSimpArgs false
set_option maxRecDepth 100000

section
variable {B : Nat} {w w' w2 w3 : World} {lb db mb : Nat} {p : ByteArray} {lim ev : Nat} {beg : Int} {es es' : List PE} {own : Bool} {L L' : List Row} {S : Nat → Prop} {room used fuse : Int} {F : ByteArray → ByteArray × Nat} {G : Nat → Prop} {n : Nat}
/-- How many segments stand ahead of a place. -/
def trimN (beg : Int) : List Seg → Nat
  | a :: b :: r => if a.end' ≤ beg then trimN beg (b :: r) + 1 else 0
  | _ => 0
theorem LgV.tail {x : PE} {a : Addr} {cap : Nat} (h : LgV B w lb db mb p lim ev beg (x :: es) own L (.slice (some a) (es.length + 1) cap) G) (hne : es ≠ []) (hf : Fr (fun i => i = lb ∨ DkS db mb L i) w w3)
    (hb : w3.heap[lb]? = some (lgObj p lim ev db beg (.slice (some (a.add 1)) es.length (cap - 1)))) (hL : ∀ i, DkS db mb L' i → DkS db mb L i) : LgV B w3 lb db mb p lim ev beg es false L' (.slice (some (a.add 1)) es.length (cap - 1)) G := by
  have hm : ∀ e ∈ es, e ∈ x :: es := fun e he => List.mem_cons_of_mem _ he
  have hft : ∀ i, lgFoot lb G es i → lgFoot lb G (x :: es) i := fun i hi => hi.imp id (Or.imp id fun ⟨e, he, h⟩ => ⟨e, hm e he, h⟩)
  have hk : ∀ i, (G i ∨ ∃ e ∈ x :: es, e.S i) → ¬ (i = lb ∨ DkS db mb L i) := fun i hi h1 => by
    rcases h1 with h1 | h1
    · exact h.nb i hi h1
    · exact h.ap i (.inr hi) h1
  obtain ⟨oa, cap', e1, e2, e3, e4⟩ := h.rd
  injection e1 with e5 e6 e7
  subst e5 e7
  refine ⟨hb, ⟨_, _, rfl, by simp at e2; omega, by omega, fun k e he => ?_⟩, fun h => (by cases h), fun e he => (h.sg e (hm e he)).fr hf fun i hi => hk i (.inr ⟨e, hm e he, hi⟩), fun i hi => ?_, fun i hi hd => h.ap i (hft i hi) (hL i hd), fun i hi => h.nb i (hi.imp id fun ⟨e, he, h⟩ => ⟨e, hm e he, h⟩),
    fun i hi e he => h.ng i hi e (hm e he), (List.pairwise_cons.1 h.nn).2, h.p1, h.p2, h.l1, h.l2, h.e1, h.e2, h.b0, h.b1, by have := h.n; simp at this; omega, fun e he => h.evs e (hm e he)⟩
  · obtain ⟨a2, h1, h2, h3⟩ := e4 (k + 1) e (by simpa using he)
    injection h1 with h1
    subst h1
    have hadd : (a.add 1).add k = a.add (k + 1) := by rw [add_add2]; congr 1; omega
    refine ⟨_, rfl, ?_, by rw [add_block]; exact h3⟩
    rw [hadd]
    exact hf.cell h2 (by rw [add_block]; exact hk _ (.inl h3))
  · rcases hi with rfl | hi | ⟨e, he, hi⟩
    · exact ⟨(h.lt _ (.inl rfl)).1, lt_of_heap hb⟩
    · have := h.lt i (.inr (.inl hi)); exact ⟨this.1, Nat.lt_of_lt_of_le this.2 hf.size⟩
    · have := h.lt i (.inr (.inr ⟨e, hm e he, hi⟩)); exact ⟨this.1, Nat.lt_of_lt_of_le this.2 hf.size⟩
theorem usd_del {F : ByteArray → ByteArray × Nat} {nm : ByteArray} : ∀ {L : List Row}, (L.map (·.1)).Nodup → (∃ r ∈ L, r.1 = nm) → usd (delL L nm) F + (F nm).1.size = usd L F
  | [], _, h => by obtain ⟨r, hr, -⟩ := h; cases hr
  | x :: l, hn, h => by
    rw [List.map_cons, List.nodup_cons] at hn
    by_cases e : x.1 = nm
    · have hl : delL (x :: l) nm = l := by
        unfold delL
        rw [List.filter_cons_of_neg (by simpa using e)]
        refine List.filter_eq_self.2 fun r hr => ?_
        simp only [decide_eq_true_eq, ne_eq]
        intro e2
        exact hn.1 (List.mem_map.2 ⟨r, hr, by rw [e2, e]⟩)
      rw [hl]
      unfold usd
      rw [List.map_cons, List.sum_cons, e]
      omega
    · have ih := usd_del (F := F) (nm := nm) (L := l) hn.2 (by
        obtain ⟨r, hr, e2⟩ := h
        rcases List.mem_cons.1 hr with rfl | hr
        · exact absurd e2 e
        · exact ⟨r, hr, e2⟩)
      have hl : delL (x :: l) nm = x :: delL l nm := by
        unfold delL
        rw [List.filter_cons_of_pos (by simpa using e)]
      rw [hl]
      unfold usd at ih ⊢
      rw [List.map_cons, List.map_cons, List.sum_cons, List.sum_cons]
      omega
theorem LgF.has {ss : List Seg} (h : LgF p beg ss L F) {s : Seg} (hs : s ∈ ss) (hl : s.l ≠ []) : (getL L (nmS p s.base)).isSome = true := by
  cases e : getL L (nmS p s.base) with
  | some fb => rfl
  | none =>
    have h1 := h.file s hs
    rw [curF_none e] at h1
    exact absurd (sum_nil h1.symm) hl
theorem curF_del {nm x : ByteArray} (h : x ≠ nm) : curF (delL L nm) F x = curF L F x := by
  refine curF_congr ?_ rfl
  rw [getL_del, if_neg h]
theorem LgF.tail {x : Seg} {ss : List Seg} (h : LgF p beg (x :: ss) L F) (hne : ss ≠ []) : LgF p beg ss (delL L (nmS p x.base)) F := by
  have hr := List.pairwise_cons.1 h.rise
  have hb := h.bb x List.mem_cons_self
  have hm : ∀ s ∈ ss, nmS p s.base ≠ nmS p x.base := fun s hs e => by
    have h1 := nmS_inj (h.bb s (List.mem_cons_of_mem _ hs)) hb e
    have := (hr.1 s hs).1
    omega
  have hdl : (x :: ss).dropLast = x :: ss.dropLast := by
    cases ss with
    | nil => exact absurd rfl hne
    | cons a l => rfl
  refine ⟨fun s hs => ?_, fun s hs => ?_, fun nm h1 h2 => ?_, ?_, hr.2, fun s hs => h.bb s (List.mem_cons_of_mem _ hs), fun s hs => h.full s (by rw [hdl]; exact List.mem_cons_of_mem _ hs)⟩
  · rw [curF_del (hm s hs)]; exact h.file s (List.mem_cons_of_mem _ hs)
  · rw [curF_del (hm s ((List.dropLast_sublist _).subset hs))]; exact h.safe s (by rw [hdl]; exact List.mem_cons_of_mem _ hs)
  · rw [getL_del] at h1
    split at h1
    · cases h1
    · rename_i hn
      obtain ⟨s, hs, e⟩ := h.own nm h1 h2
      rcases List.mem_cons.1 hs with rfl | hs
      · exact absurd e hn
      · exact ⟨s, hs, e⟩
  · rw [getL_del, if_neg (start_ne p x.base)]
    exact h.strt
def LastSafeE (p : ByteArray) (es : List PE) (L : List Row) (F : ByteArray → ByteArray × Nat) : Prop := LastSafe p (segsOf es) L F
theorem others_del {b : Nat} : Others p L F (delL L (nmS p b)) F := fun x hx => ⟨by rw [getL_del, if_neg (ne_mine hx)], rfl⟩
/-- The first segment is dropped. -/
theorem LogD.drop1 {x : PE} {a : Addr} {cap : Nat} (h : LogD B w lb db mb p lim ev beg (x :: es) own L S room used fuse F n) (hne : es ≠ []) (hV : LgV B w lb db mb p lim ev beg (x :: es) own L (.slice (some a) (es.length + 1) cap) G) (hSS : ∀ i, S i ↔ lgFoot lb G (x :: es) i)
    (hd : Dk w2 db mb room (used - (F (nmS p x.s.base)).1.size) (burn fuse) (delL L (nmS p x.s.base)) F) (hf : Fr (DkS db mb L) w w2) (hf3 : Fr (fun i => i = lb) w2 w3) (hb : w3.heap[lb]? = some (lgObj p lim ev db beg (.slice (some (a.add 1)) es.length (cap - 1)))) :
    ∃ S3, LogD B w3 lb db mb p lim ev beg es false (delL L (nmS p x.s.base)) S3 room (used - (F (nmS p x.s.base)).1.size) (burn fuse) F n ∧ (∀ i, S3 i → S i) ∧ Fr (fun i => S i ∨ DkS db mb L i) w w3 := by
  have hfl := h.fl
  have hsg : segsOf (x :: es) = x.s :: segsOf es := rfl
  have hsn : segsOf es ≠ [] := by unfold segsOf; simpa using hne
  rw [hsg] at hfl
  have hhas := hfl.has List.mem_cons_self (hfl.full x.s (by cases hh : segsOf es with | nil => exact absurd hh hsn | cons a l => simp))
  obtain ⟨fb, hg⟩ := Option.isSome_iff_exists.1 hhas
  have hus := usd_del (F := F) (nm := nmS p x.s.base) h.dk.m.1.nodup ⟨_, getL_some hg, rfl⟩
  have hus0 := h.us
  have hF3 : Fr (fun i => i = lb ∨ DkS db mb L i) w w3 := (hf.mono (S' := fun i => i = lb ∨ DkS db mb L i) fun i hi => .inl (.inr hi)).trans hf3 fun i hi => .inl (.inl hi)
  have hV3 := hV.tail hne hF3 hb (L' := delL L (nmS p x.s.base)) fun i hi => hi.del
  have hlb : ¬ DkS db mb L lb := hV.ap lb (.inl rfl)
  have hrm := h.rm
  have hur := h.ur
  have hu0 := h.ok.u0
  refine ⟨_, ⟨⟨_, _, hV3, fun i => Iff.rfl⟩, hd.fr hf3 fun i hi e => hlb (e ▸ hi.del), ⟨by omega, by omega, burn_wf h.ok.fw, fun r hr => h.ok.fs r (del_mem hr).1⟩, by omega, by omega, h.rm, hfl.tail hsn, fun i hi => h.dl i hi.del, h.b1, Nat.le_trans (List.length_filter_le _ _) h.nL, by have := h.nE; simp at this; omega, ?_, h.n1, ?_⟩, fun i hi => ?_, hF3.mono fun i hi => .inl (hi.imp (fun e => (hSS i).2 (.inl e)) id)⟩
  · have h1 := h.nB
    rw [hsg] at h1
    unfold catL at h1 ⊢
    rw [List.flatMap_cons, List.length_append] at h1
    omega
  · have h1 := h.be
    unfold lgEnd at h1 ⊢
    rw [List.getLast?_cons] at h1
    cases e : es.getLast? with
    | none => rw [List.getLast?_eq_none_iff] at e; exact absurd e hne
    | some y => rw [e] at h1; exact h1
  · exact (hSS i).2 (hi.imp id (Or.imp id fun ⟨e, he, h⟩ => ⟨e, List.mem_cons_of_mem _ he, h⟩))
def TrimPost (B : Nat) (w : World) (lb db mb : Nat) (p : ByteArray) (lim ev : Nat) (beg : Int) (es : List PE) (own : Bool) (L : List Row) (S : Nat → Prop) (room used fuse : Int) (F : ByteArray → ByteArray × Nat) (n : Nat) (e : Ending) (w' : World) : Prop :=
  ∃ (c : Int) (j : Nat) (own' : Bool) (L' : List Row) (S' : Nat → Prop) (used' fuse' : Int), e = .returned (.int .i64 c) ∧ LogD B w' lb db mb p lim ev beg (es.drop j) own' L' S' room used' fuse' F n ∧ Others p L F L' F ∧ (LastSafeE p es L F → LastSafeE p (es.drop j) L' F) ∧ (∀ i, S' i → S i) ∧ (∀ i, DkS db mb L' i → DkS db mb L i) ∧ Fr (fun i => S i ∨ DkS db mb L i) w w' ∧
    (c = 0 ∨ c = 7) ∧ (fuse = -1 → c = 0 ∧ fuse' = -1) ∧ (c = 0 → j = trimN beg (segsOf es)) ∧ (j = 0 → own' = own ∧ L' = L) ∧ used' ≤ used
def lenOf (lb : Nat) (w : World) : Nat := match w.cell? ⟨lb, 5, none⟩ with
  | some (.slice _ n _) => n
  | _ => 0
structure TrimMid (B : Nat) (w : World) (lb db mb : Nat) (p : ByteArray) (lim ev : Nat) (beg : Int) (es : List PE) (own : Bool) (L : List Row) (S : Nat → Prop) (room used fuse : Int) (F : ByteArray → ByteArray × Nat) (n : Nat) (j : Nat) (own' : Bool) (L' : List Row) (S' : Nat → Prop) (used' fuse' : Int) (wr : World) : Prop where
  d : LogD B wr lb db mb p lim ev beg (es.drop j) own' L' S' room used' fuse' F n
  ot : Others p L F L' F
  ls : LastSafeE p es L F → LastSafeE p (es.drop j) L' F
  fs : ∀ i, S' i → S i
  fd : ∀ i, DkS db mb L' i → DkS db mb L i
  fr : Fr (fun i => S i ∨ DkS db mb L i) w wr
  fu : fuse = -1 → fuse' = -1
  tn : j + trimN beg (segsOf (es.drop j)) = trimN beg (segsOf es)
  ow : j = 0 → own' = own ∧ L' = L
  us : used' ≤ used
end
section
variable {B : Nat} {w w' w1 w2 w3 wr : World} {lb db mb : Nat} {p : ByteArray} {lim ev : Nat} {beg : Int} {es es' : List PE} {own own' : Bool} {L L' : List Row} {S S' : Nat → Prop} {room used fuse used' fuse' : Int} {F : ByteArray → ByteArray × Nat} {G : Nat → Prop} {n j : Nat}
theorem add_zero' (a : Addr) : a.add 0 = a := by cases a; unfold Addr.add; split <;> simp_all
theorem lenOf_eq {oa : Option Addr} {m cap : Nat} (h : w.cell? ⟨lb, 5, none⟩ = some (.slice oa m cap)) : lenOf lb w = m := by unfold lenOf; rw [h]
theorem TrimMid.done (M : TrimMid B w lb db mb p lim ev beg es own L S room used fuse F n j own' L' S' used' fuse' wr) (h0 : trimN beg (segsOf (es.drop j)) = 0) (hf : Fr (fun _ => False) wr w1) : TrimPost B w lb db mb p lim ev beg es own L S room used fuse F n (.returned (.int .i64 0)) w1 :=
  ⟨0, j, own', L', S', used', fuse', rfl, M.d.old hf, M.ot, M.ls, M.fs, M.fd, M.fr.trans hf fun i h => h.elim, .inl rfl, fun h => ⟨rfl, M.fu h⟩, fun _ => by have := M.tn; omega, M.ow, M.us⟩
theorem TrimMid.down (M : TrimMid B w lb db mb p lim ev beg es own L S room used fuse F n j own' L' S' used' fuse' wr) (h0 : fuse' = 0) (hf : Fr (fun _ => False) wr w1) : TrimPost B w lb db mb p lim ev beg es own L S room used fuse F n (.returned (.int .i64 7)) w1 :=
  ⟨7, j, own', L', S', used', fuse', rfl, M.d.old hf, M.ot, M.ls, M.fs, M.fd, M.fr.trans hf fun i h => h.elim, .inr rfl, fun h => absurd (M.fu h) (by omega), fun h => absurd h (by decide), M.ow, M.us⟩
theorem TrimMid.step {x y : PE} {R : List PE} {a : Addr} {cap : Nat} (M : TrimMid B w lb db mb p lim ev beg es own L S room used fuse F n j own' L' S' used' fuse' wr) (hR : es.drop j = x :: y :: R) (hend : x.s.end' ≤ beg) (hV : LgV B wr lb db mb p lim ev beg (x :: y :: R) own' L' (.slice (some a) (R.length + 1 + 1) cap) G) (hSS : ∀ i, S' i ↔ lgFoot lb G (x :: y :: R) i)
    (hd : Dk w2 db mb room (used' - (F (nmS p x.s.base)).1.size) (burn fuse') (delL L' (nmS p x.s.base)) F) (hf : Fr (DkS db mb L') wr w2) (hf3 : Fr (fun i => i = lb) w2 w3) (hb : w3.heap[lb]? = some (lgObj p lim ev db beg (.slice (some (a.add 1)) (R.length + 1) (cap - 1)))) :
    ∃ L2 S2 used2, TrimMid B w lb db mb p lim ev beg es own L S room used fuse F n (j + 1) false L2 S2 used2 (burn fuse') w3 := by
  have hd1 := M.d
  rw [hR] at hd1
  obtain ⟨S3, h1, h2, h3⟩ := hd1.drop1 (es := y :: R) (by simp) hV hSS hd hf hf3 hb
  have hj : es.drop (j + 1) = y :: R := by
    have := congrArg (List.drop 1) hR
    simpa [List.drop_drop, Nat.add_comm] using this
  refine ⟨_, S3, _, ⟨by rw [hj]; exact h1, M.ot.trans others_del, fun hl => ?_, fun i hi => M.fs i (h2 i hi), fun i hi => M.fd i hi.del, M.fr.trans h3 fun i hi => .inl (hi.imp (M.fs i) (M.fd i)), fun h => by rw [M.fu h]; rfl, ?_, fun h => absurd h (by omega), ?_⟩⟩
  · have h4 := M.ls hl
    rw [hR] at h4
    rw [hj]
    intro s hs
    have h5 : (segsOf (x :: y :: R)).getLast? = some s := by
      show (x.s :: y.s :: R.map (·.s)).getLast? = _
      rw [List.getLast?_cons_cons]
      exact hs
    rw [curF_del, h4 s h5]
    have hfl := hd1.fl
    have h6 := List.pairwise_cons.1 (show List.Pairwise _ (x.s :: segsOf (y :: R)) from hfl.rise)
    have h7 : s ∈ segsOf (y :: R) := List.mem_of_getLast? hs
    intro e
    have h8 := nmS_inj (hfl.bb s (List.mem_cons_of_mem _ h7)) (hfl.bb x.s List.mem_cons_self) e
    have := (h6.1 s h7).1
    omega
  · have h4 := M.tn
    rw [hR] at h4
    rw [hj]
    have h5 : trimN beg (segsOf (x :: y :: R)) = trimN beg (segsOf (y :: R)) + 1 := by
      show trimN beg (x.s :: y.s :: R.map (·.s)) = _
      rw [trimN, if_pos hend]
      rfl
    omega
  · have := M.us
    omega
set_option maxHeartbeats 8000000 in
theorem trim_walk (D0 : LogD B w lb db mb p lim ev beg es own L S room used fuse F n) : Calls Tryz.prog 47 #[.pointer (some ⟨lb, 0, none⟩)] w (TrimPost B w lb db mb p lim ev beg es own L S room used fuse F n) := by
  have M0 := Lib.hid (show TrimMid B w lb db mb p lim ev beg es own L S room used fuse F n 0 own L S used fuse w from
    ⟨D0, Others.refl _ _ _, fun h => h, fun _ h => h, fun _ h => h, Fr.refl _ _, fun h => h, by simp, fun _ => ⟨rfl, rfl⟩, Int.le_refl _⟩)
  clear D0
  go_enter Tryz.func47, Tryz.ntmps47
  go_wp2_with fail
  go_loopw [] (fun wr => ∃ j own' L' S' used' fuse', TrimMid B w lb db mb p lim ev beg es own L S room used fuse F n j own' L' S' used' fuse' wr) (fun wr => lenOf lb wr)
  case atStart => exact ⟨0, own, L, S, used, fuse, M0.out⟩
  case round =>
    obtain ⟨j, own', L', S', used', fuse', hM⟩ := hrel
    have M := Lib.hid hM
    obtain ⟨sv, G, hV, hSS⟩ := hM.d.lg
    have HSS := Lib.hid hSS
    have HV := Lib.hid hV
    obtain ⟨oa, cap, hsv, hcl, hcm, hrd⟩ := hV.rd
    have HD := Lib.hid hM.d
    clear M0 hM hSS
    generalize hR : es.drop j = R at *
    have ER := Lib.hid hR
    clear hR
    rcases R with _ | ⟨x, _ | ⟨y, R⟩⟩
    case nil =>
      subst hsv
      have z5 : ∀ y : Lcl.InS (fun w' => Fr (fun _ => False) wr w'), y.w.cell? ⟨lb, 5, none⟩ = some (.slice oa 0 cap) := fun y => y.h.cel ((cell_of hV.b 5).trans rfl)
      clear hV hrd
      go_wp2_with fail
      refine Lcl.wp_region_calm (by kernel_rfl) [(true, [0, 1, 2]), (false, [3]), (true, [4, 5, 6, 7, 8, 9, 14, 15, 16]), (false, [10, 17]), (true, [11]), (false, [12])] #[0, 1, 3, 7, 15, 31, 63, 127, 255, 511, 1023, 2047, 4095, 8191, 127, 16511, 49279, 114815, 262143, 524287] [0, 1, 2, 3, 4, 5, 6, 7, 8, 9, 10, 11, 12, 13, 14, 15, 16, 17] 3 #[true, true, true, true, true, true, true, true, true, true, true, true, true, false, true, true, true, true, false, false] (by kernel_rfl) (by kernel_rfl) (by kernel_rfl) (fun w' => Fr (fun _ => False) wr w') (Fr.same wr).drew (fun d c a v w h => by cases d <;> exact h) ?_
      simp only [Lcl.opsOf, List.map_cons, List.map_nil, List.getElem?_toArray, List.getElem?_cons_succ, List.getElem?_cons_zero, Option.getD_some]
      refine Lcl.wpCalm_t ?_
      repeat (go_big_quiet_step (rfl))
      refine wpQuiet_nil ?_
      refine Lcl.wpCalm_f ?_
      repeat (go_big_quiet_step (rfl))
      refine wpQuiet_nil ?_
      refine Lcl.wpCalm_t ?_
      repeat (go_big_quiet_step (rfl))
      refine wpQuiet_nil ?_
      refine Lcl.wpCalm_f ?_
      repeat (go_big_quiet_step (rfl))
      refine wpQuiet_nil ?_
      refine Lcl.wpCalm_t ?_
      repeat (go_big_quiet_step (rfl))
      refine wpQuiet_nil ?_
      refine Lcl.wpCalm_f ?_
      repeat (go_big_quiet_step (rfl))
      refine wpQuiet_nil ?_
      refine Lcl.wpCalm_nil ?_
      clear z5
      refine Lcl.wpG_one 13 rfl (by kernel_rfl) ?_
      go_wp2_with fail
      refine ⟨fun _ h => h, ?_⟩
      refine Lcl.wpG_run [18, 19] _ _ _ (by kernel_rfl) ?_
      simp only [List.map_cons, List.map_nil, List.getElem?_toArray, List.getElem?_cons_succ, List.getElem?_cons_zero, Option.getD_some]
      go_wp2_with fail
      go_ret
      exact M.out.done (by rw [ER.out]; rfl) (Fr.same _).drew
    case cons.nil =>
      subst hsv
      have z5 : ∀ y : Lcl.InS (fun w' => Fr (fun _ => False) wr w'), y.w.cell? ⟨lb, 5, none⟩ = some (.slice oa 1 cap) := fun y => y.h.cel ((cell_of hV.b 5).trans rfl)
      clear hV hrd
      go_wp2_with fail
      refine Lcl.wp_region_calm (by kernel_rfl) [(true, [0, 1, 2]), (false, [3]), (true, [4, 5, 6, 7, 8, 9, 14, 15, 16]), (false, [10, 17]), (true, [11]), (false, [12])] #[0, 1, 3, 7, 15, 31, 63, 127, 255, 511, 1023, 2047, 4095, 8191, 127, 16511, 49279, 114815, 262143, 524287] [0, 1, 2, 3, 4, 5, 6, 7, 8, 9, 10, 11, 12, 13, 14, 15, 16, 17] 3 #[true, true, true, true, true, true, true, true, true, true, true, true, true, false, true, true, true, true, false, false] (by kernel_rfl) (by kernel_rfl) (by kernel_rfl) (fun w' => Fr (fun _ => False) wr w') (Fr.same wr).drew (fun d c a v w h => by cases d <;> exact h) ?_
      simp only [Lcl.opsOf, List.map_cons, List.map_nil, List.getElem?_toArray, List.getElem?_cons_succ, List.getElem?_cons_zero, Option.getD_some]
      refine Lcl.wpCalm_t ?_
      repeat (go_big_quiet_step (rfl))
      refine wpQuiet_nil ?_
      refine Lcl.wpCalm_f ?_
      repeat (go_big_quiet_step (rfl))
      refine wpQuiet_nil ?_
      refine Lcl.wpCalm_t ?_
      repeat (go_big_quiet_step (rfl))
      refine wpQuiet_nil ?_
      refine Lcl.wpCalm_f ?_
      repeat (go_big_quiet_step (rfl))
      refine wpQuiet_nil ?_
      refine Lcl.wpCalm_t ?_
      repeat (go_big_quiet_step (rfl))
      refine wpQuiet_nil ?_
      refine Lcl.wpCalm_f ?_
      repeat (go_big_quiet_step (rfl))
      refine wpQuiet_nil ?_
      refine Lcl.wpCalm_nil ?_
      clear z5
      refine Lcl.wpG_one 13 rfl (by kernel_rfl) ?_
      go_wp2_with fail
      refine ⟨fun _ h => h, ?_⟩
      refine Lcl.wpG_run [18, 19] _ _ _ (by kernel_rfl) ?_
      simp only [List.map_cons, List.map_nil, List.getElem?_toArray, List.getElem?_cons_succ, List.getElem?_cons_zero, Option.getD_some]
      go_wp2_with fail
      go_ret
      exact M.out.done (by rw [ER.out]; rfl) (Fr.same _).drew
    case cons.cons =>
      simp only [List.length_cons] at hsv hcl
      obtain ⟨a, ha, hca, -⟩ := hrd 0 x rfl
      subst ha
      subst hsv
      rw [add_zero'] at hca
      obtain ⟨m, hm⟩ : ∃ m, m = R.length + 1 + 1 := ⟨_, rfl⟩
      rw [← hm] at hcl HV
      have hm2 : (1 : Int) < (m : Int) := by omega
      have z5 : ∀ y : Lcl.InS (fun w' => Fr (fun _ => False) wr w'), y.w.cell? ⟨lb, 5, none⟩ = some (.slice (some a) m cap) := fun y => y.h.cel ((cell_of HV.out.b 5).trans rfl)
      have z4 : ∀ y : Lcl.InS (fun w' => Fr (fun _ => False) wr w'), y.w.cell? ⟨lb, 4, none⟩ = some (.int .i64 beg) := fun y => y.h.cel ((cell_of HV.out.b 4).trans rfl)
      have za : ∀ y : Lcl.InS (fun w' => Fr (fun _ => False) wr w'), y.w.cell? a = some (.pointer (some ⟨x.sb, 0, none⟩)) := fun y => y.h.cel hca
      have HZ := Lib.hid (send_walk ((HD.out.old (Fr.same wr).drew).lg.seg (e := x) (by simp)))
      have HM := Lib.hid hm
      have HCL := Lib.hid hcl
      clear hV hrd hca hm hcl
      go_wp2_with fail
      refine Lcl.wp_region_calm (by kernel_rfl) [(true, [0, 1, 2]), (false, [3]), (true, [4, 5, 6, 7, 8, 9, 14, 15, 16]), (false, [10, 17]), (true, [11]), (false, [12])] #[0, 1, 3, 7, 15, 31, 63, 127, 255, 511, 1023, 2047, 4095, 8191, 127, 16511, 49279, 114815, 262143, 524287] [0, 1, 2, 3, 4, 5, 6, 7, 8, 9, 10, 11, 12, 13, 14, 15, 16, 17] 3 #[true, true, true, true, true, true, true, true, true, true, true, true, true, false, true, true, true, true, false, false] (by kernel_rfl) (by kernel_rfl) (by kernel_rfl) (fun w' => Fr (fun _ => False) wr w') (Fr.same wr).drew (fun d c a v w h => by cases d <;> exact h) ?_
      simp only [Lcl.opsOf, List.map_cons, List.map_nil, List.getElem?_toArray, List.getElem?_cons_succ, List.getElem?_cons_zero, Option.getD_some]
      refine Lcl.wpCalm_t ?_
      repeat (go_big_quiet_step (rfl))
      refine wpQuiet_nil ?_
      refine Lcl.wpCalm_f ?_
      repeat (go_big_quiet_step (rfl))
      refine wpQuiet_nil ?_
      refine Lcl.wpCalm_t ?_
      repeat (go_big_quiet_step (rfl))
      refine wpQuiet_nil ?_
      refine Lcl.wpCalm_f ?_
      repeat (go_big_quiet_step (rfl))
      refine wpQuiet_nil ?_
      refine Lcl.wpCalm_t ?_
      repeat (go_big_quiet_step (rfl))
      refine wpQuiet_nil ?_
      refine Lcl.wpCalm_f ?_
      repeat (go_big_quiet_step (rfl))
      refine wpQuiet_nil ?_
      refine Lcl.wpCalm_nil ?_
      clear z5 z4 za
      refine Lcl.wpG_one 13 rfl (by kernel_rfl) ?_
      go_wp2_with fail
      refine HZ.out.mono ?_
      rintro e w1 ⟨rfl, hw1⟩
      have Q1 := Lib.hid (show Fr (fun _ => False) wr w1 from by rw [← hw1]; exact (Fr.same wr).drew)
      clear hw1 HZ
      go_wp2_with fail
      refine ⟨fun _ _ => Q1.out, ?_⟩
      refine Lcl.wpG_run [18, 19] _ _ _ (by kernel_rfl) ?_
      simp only [List.map_cons, List.map_nil, List.getElem?_toArray, List.getElem?_cons_succ, List.getElem?_cons_zero, Option.getD_some]
      by_cases hend : x.s.end' ≤ beg
      case neg =>
        go_wp2_with fail
        go_ret
        exact M.out.done (by rw [ER.out]; show trimN beg (x.s :: y.s :: _) = 0; rw [trimN, if_neg (by omega)]) Q1.out
      case pos =>
        go_wp2_with fail
        have z0 : ∀ y : Lcl.InS (fun w' => Fr (fun _ => False) w1 w'), y.w.cell? ⟨lb, 0, none⟩ = some (.string p) := fun y => (Q1.out.tr y.h).cel ((cell_of HV.out.b 0).trans rfl)
        have z1 : ∀ y : Lcl.InS (fun w' => Fr (fun _ => False) w1 w'), y.w.cell? ⟨lb, 1, none⟩ = some (.int .i64 lim) := fun y => (Q1.out.tr y.h).cel ((cell_of HV.out.b 1).trans rfl)
        have z2 : ∀ y : Lcl.InS (fun w' => Fr (fun _ => False) w1 w'), y.w.cell? ⟨lb, 2, none⟩ = some (.int .i64 ev) := fun y => (Q1.out.tr y.h).cel ((cell_of HV.out.b 2).trans rfl)
        have z3 : ∀ y : Lcl.InS (fun w' => Fr (fun _ => False) w1 w'), y.w.cell? ⟨lb, 3, none⟩ = some (.pointer (some ⟨db, 0, none⟩)) := fun y => (Q1.out.tr y.h).cel ((cell_of HV.out.b 3).trans rfl)
        have z5 : ∀ y : Lcl.InS (fun w' => Fr (fun _ => False) w1 w'), y.w.cell? ⟨lb, 5, none⟩ = some (.slice (some a) m cap) := fun y => (Q1.out.tr y.h).cel ((cell_of HV.out.b 5).trans rfl)
        have hca : wr.cell? a = some (.pointer (some ⟨x.sb, 0, none⟩)) := by
          obtain ⟨oa9, cap9, h1, -, -, h4⟩ := HV.out.rd
          injection h1 with h1
          obtain ⟨a9, h5, h6, -⟩ := h4 0 x rfl
          rw [← h1] at h5
          injection h5 with h5
          rw [h5, ← add_zero' a9]
          exact h6
        have za : ∀ y : Lcl.InS (fun w' => Fr (fun _ => False) w1 w'), y.w.cell? a = some (.pointer (some ⟨x.sb, 0, none⟩)) := fun y => (Q1.out.tr y.h).cel hca
        have HB1 := Lib.hid (sbase_walk ((HD.out.old (Q1.out.tr (Fr.same w1).drew)).lg.seg (e := x) (by simp)))
        have hxb := HV.out.evs x (by simp)
        have hnw := fun w2 => name_walk p lim ev x.s.base hxb w2 HV.out.p2
        unfold cfgV at hnw
        have HNW := Lib.hid hnw
        clear hnw hxb hca
        refine Lcl.wp_region_calm (by kernel_rfl) [(true, [0, 1, 2, 4, 5, 6, 8, 9, 10]), (false, [3, 7, 11]), (true, [12]), (false, [13])] #[0, 1, 3, 7, 0, 16, 48, 112, 0, 256, 768, 1792, 3840, 7936, 16128, 32752, 65535, 131071] [0, 1, 2, 3, 4, 5, 6, 7, 8, 9, 10, 11, 12, 13, 14, 15] 4 #[true, true, true, true, true, true, true, true, true, true, true, true, true, true, false, false, false, false] (by kernel_rfl) (by kernel_rfl) (by kernel_rfl) (fun w' => Fr (fun _ => False) w1 w') (Fr.same w1).drew (fun d c a v w h => by cases d <;> exact h) ?_
        simp only [Lcl.opsOf, List.map_cons, List.map_nil, List.getElem?_toArray, List.getElem?_cons_succ, List.getElem?_cons_zero, Option.getD_some]
        refine Lcl.wpCalm_t ?_
        repeat (go_big_quiet_step (rfl))
        refine wpQuiet_nil ?_
        refine Lcl.wpCalm_f ?_
        repeat (go_big_quiet_step (rfl))
        refine wpQuiet_nil ?_
        refine Lcl.wpCalm_t ?_
        repeat (go_big_quiet_step (rfl))
        refine wpQuiet_nil ?_
        refine Lcl.wpCalm_f ?_
        repeat (go_big_quiet_step (rfl))
        refine wpQuiet_nil ?_
        refine Lcl.wpCalm_nil ?_
        clear z0 z1 z2 z3 z5 za
        refine Lcl.wpG_one 14 rfl (by kernel_rfl) ?_
        go_wp2_with fail
        refine HB1.out.mono ?_
        rintro e w2 ⟨rfl, hw2⟩
        have Q2 := Lib.hid (show Fr (fun _ => False) w1 w2 from by rw [← hw2]; exact (Fr.same w1).drew)
        clear hw2 HB1
        go_wp2_with fail
        refine ⟨fun _ _ => Q2.out, ?_⟩
        refine Lcl.wpG_one 15 rfl (by kernel_rfl) ?_
        go_wp2_with fail
        refine (HNW.out _).mono ?_
        rintro e w3 ⟨rfl, hf3⟩
        have Q23 := Lib.hid (Q2.out.tr hf3)
        have Q3 := Lib.hid (Q1.out.tr (Q2.out.tr hf3))
        have D3 := Lib.hid (HD.out.old Q3.out)
        have hpost := ddrop_any D3.out.dk D3.out.ok (nmS p x.s.base) (by rw [nmS_size]; have := HV.out.p2; omega)
        have HPOST := Lib.hid hpost
        clear hf3 hpost HNW
        go_wp2_with fail
        refine ⟨fun _ _ => Q23.out, ?_⟩
        refine Lcl.wpG_one 16 rfl (by kernel_rfl) ?_
        go_wp2_with fail
        refine HPOST.out.mono ?_
        rintro e w4 ⟨rfl, hok, hno⟩
        by_cases hfu : fuse' = 0
        · have hc : synCode fuse' L' (nmS p x.s.base) = 7 := by unfold synCode; rw [if_pos hfu]
          rw [hc] at hok hno ⊢
          have F4 := Lib.hid (Q3.out.tr (hno (by decide)))
          clear hok hno hc HPOST
          go_wp2_with fail
          refine ⟨fun h => absurd h (by decide), ?_⟩
          refine Lcl.wpG_run [17] _ _ _ (by kernel_rfl) ?_
          simp only [List.map_cons, List.map_nil, List.getElem?_toArray, List.getElem?_cons_succ, List.getElem?_cons_zero, Option.getD_some]
          go_wp2_with fail
          go_ret
          exact M.out.down hfu F4.out
        · have hgs : (getL L' (nmS p x.s.base)).isSome = true := D3.out.fl.has List.mem_cons_self (D3.out.fl.full x.s (by show x.s ∈ (x.s :: y.s :: R.map (·.s)).dropLast; simp))
          have hc : synCode fuse' L' (nmS p x.s.base) = 0 := by unfold synCode; rw [if_neg hfu, if_pos hgs]
          rw [hc] at hok hno ⊢
          obtain ⟨hd4, hf4⟩ := hok rfl
          have D4 := Lib.hid hd4
          have F4 := Lib.hid ((Q3.out.mono (S' := DkS db mb L') fun i h => h.elim).trans hf4 fun i h => .inl h)
          have hlb4 := (F4.out.block lb (lt_of_heap HV.out.b) (HV.out.ap lb (.inl rfl))).trans HV.out.b
          have HLB4 := Lib.hid hlb4
          have k5 : w4.cell? ⟨lb, 5, none⟩ = some (.slice (some a) m cap) := (cell_of hlb4 5).trans rfl
          have f5 := fz_of hlb4 5
          clear hok hno hc HPOST hd4 hf4 hgs hlb4
          go_wp2_with fail
          refine ⟨fun h => absurd h (by decide), ?_⟩
          refine Lcl.wpG_run [17] _ _ _ (by kernel_rfl) ?_
          simp only [List.map_cons, List.map_nil, List.getElem?_toArray, List.getElem?_cons_succ, List.getElem?_cons_zero, Option.getD_some]
          go_wp2_with fail
          have hadd : a.add 1 = ⟨a.block, a.off + 1, none⟩ := by
            have h9 := add_add a 0 1 (by omega)
            rw [add_zero'] at h9
            simpa using h9
          have hcap : cap ≠ 1 := by have := HCL.out; omega
          have hm1 : m - 1 = R.length + 1 := by have := HM.out; omega
          simp only [if_neg hcap]
          rw [hm1, ← hadd]
          have hbb : (w4.setCell ⟨lb, 5, none⟩ (.slice (some (a.add 1)) (R.length + 1) (cap - 1))).heap[lb]? = some (lgObj p lim ev db beg (.slice (some (a.add 1)) (R.length + 1) (cap - 1))) := by
            rw [heap_setCell_self HLB4.out]; rfl
          have hVm := HV.out
          rw [HM.out] at hVm
          obtain ⟨L2, S2, us2, hM2⟩ := M.out.step ER.out hend hVm HSS.out D4.out F4.out (Fr.setCell (S := fun i => i = lb) (p := ⟨lb, 5, none⟩) (Fr.refl _ _) (.inl rfl) _) hbb
          refine ⟨⟨_, _, _, _, _, _, hM2⟩, ?_⟩
          rw [lenOf_eq ((cell_of hbb 5).trans rfl), lenOf_eq ((cell_of HV.out.b 5).trans rfl), HM.out]
          omega
end
end Go.Proofs.YtdlnafhhkpklmaaGreatDoor

/- A log's segments read from its disk: laws, and the walk of readAll. -/
namespace Go.Proofs.YtdlnafhhkpklmaaGreatDoor
open Go.RowKit Go.Fm Go.BigFrame Go.Shelf Go.Maps
set_option linter.unusedVariables false
set_option linter.unusedSimpArgs false
set_option maxRecDepth 100000

section
variable {B : Nat} {w w' w1 w2 w3 wr : World} {lb db mb : Nat} {p : ByteArray} {lim ev : Nat} {beg : Int} {es es' : List PE} {own own' : Bool} {L L' : List Row} {S S' : Nat → Prop} {room used fuse used' fuse' used2 : Int} {F F' F2 : ByteArray → ByteArray × Nat} {G : Nat → Prop} {n j k : Nat} {ts : List Seg} {N : List ByteArray}
def isOwn (p nm : ByteArray) : Bool := Lib.hasPrefix nm.data.toList (dashS p).data.toList
/-- What a log's files tell when it is opened: of each segment the batches that are there. -/
structure OpIn (p : ByteArray) (ev : Nat) (ts : List Seg) (L : List Row) (F : ByteArray → ByteArray × Nat) : Prop where
  own : ∀ nm, (getL L nm).isSome = true → isOwn p nm = true → ∃ t ∈ ts, nm = nmS p t.base
  has : ∀ t ∈ ts, (getL L (nmS p t.base)).isSome = true
  scan : ∀ t ∈ ts, ∃ q, Scan (F (nmS p t.base)).1 0 t.base t.l q ∧ (F (nmS p t.base)).1.extract 0 q = catB t.l ∧ (F (nmS p t.base)).2 = (F (nmS p t.base)).1.size
  rise : ts.Pairwise fun a b => a.base < b.base ∧ a.end' ≤ b.base
  bb : ∀ t ∈ ts, t.base ≤ 1099511627776
  len : ∀ t ∈ ts, t.l.length ≤ 700
  full : ∀ t ∈ ts.dropLast, t.l ≠ []
  evs : ∀ t ∈ ts, t.every = ev
theorem getL_in {L : List Row} {nm : ByteArray} : (getL L nm).isSome = true ↔ nm ∈ L.map (·.1) := by
  unfold getL
  rw [Option.isSome_map, List.find?_isSome, List.mem_map]
  exact ⟨fun ⟨r, hr, e⟩ => ⟨r, hr, by simpa using e⟩, fun ⟨r, hr, e⟩ => ⟨r, hr, by simpa using e⟩⟩
theorem sortB_sorted (ns : List ByteArray) : (sortB ns).Pairwise fun x y => x.data.toList ≤ y.data.toList := by
  unfold sortB
  rw [List.pairwise_map]
  refine (List.pairwise_mergeSort (le := bleL) bleL_trans bleL_total _).imp fun {a b} h => ?_
  rw [list_strB, list_strB]
  unfold bleL at h
  simpa using h
theorem own_names (h : OpIn p ev ts L F) (hn : (L.map (·.1)).Nodup) : (sortB (L.map (·.1))).filter (isOwn p) = ts.map fun t => nmS p t.base := by
  have hinj : ∀ a ∈ ts, ∀ b ∈ ts, nmS p a.base = nmS p b.base → a.base = b.base := fun a ha b hb e => nmS_inj (h.bb a ha) (h.bb b hb) e
  have hnd : (ts.map fun t => nmS p t.base).Nodup := by
    unfold List.Nodup
    rw [List.pairwise_map]
    refine List.Pairwise.imp_of_mem ?_ h.rise
    intro a b ha hb h1 e
    have := hinj a ha b hb e
    omega
  have hN : (sortB (L.map (·.1))).Nodup := (sortB_perm _).symm.nodup hn
  refine List.Perm.eq_of_pairwise (le := fun x y : ByteArray => x.data.toList ≤ y.data.toList) (fun x y _ _ hx hy => bytes_ext (List.le_antisymm hx hy)) ((sortB_sorted _).sublist List.filter_sublist) ?_ ((List.perm_ext_iff_of_nodup (hN.sublist List.filter_sublist) hnd).2 fun nm => ?_)
  · rw [List.pairwise_map]
    refine List.Pairwise.imp_of_mem ?_ h.rise
    intro a b ha hb h1
    exact nmS_le (by omega) (h.bb b hb)
  · rw [List.mem_filter, (sortB_perm _).mem_iff, ← getL_in, List.mem_map]
    constructor
    · rintro ⟨h1, h2⟩
      obtain ⟨t, ht, e⟩ := h.own nm h1 h2
      exact ⟨t, ht, e.symm⟩
    · rintro ⟨t, ht, rfl⟩
      exact ⟨h.has t ht, nmS_pre p t.base⟩
structure RdM (B : Nat) (w : World) (lb db mb : Nat) (p : ByteArray) (lim ev : Nat) (beg : Int) (ts : List Seg) (L : List Row) (room : Int) (F : ByteArray → ByteArray × Nat) (N : List ByteArray) (k : Nat) (es : List PE) (used : Int) (F' : ByteArray → ByteArray × Nat) (wr : World) : Prop where
  lg : ∃ sv G, LgV B wr lb db mb p lim ev beg es true L sv G ∧ ∀ i, (G i ∨ ∃ e ∈ es, e.S i) → w.heap.size ≤ i
  dk : Dk wr db mb room used (-1) L F'
  ok : DkOK room used (-1) L F'
  us : used = usd L F'
  ur : used ≤ room
  sg : segsOf es = ts.take es.length
  ln : es.length ≤ ts.length
  cn : ((N.take k).filter (isOwn p)).length = es.length
  dn : ∀ i t, i < es.length → ts[i]? = some t → F' (nmS p t.base) = (catB t.l, (catB t.l).size)
  rs : ∀ nm, (∀ i t, i < es.length → ts[i]? = some t → nm ≠ nmS p t.base) → F' nm = F nm
  fr : Fr (fun i => i = lb ∨ DkS db mb L i) w wr
theorem RdM.old (M : RdM B w lb db mb p lim ev beg ts L room F N k es used F' wr) (hf : Fr (fun _ => False) wr w1) : RdM B w lb db mb p lim ev beg ts L room F N k es used F' w1 := by
  obtain ⟨sv, G, h1, h2⟩ := M.lg
  exact ⟨⟨sv, G, h1.fr hf fun _ _ h => h, h2⟩, M.dk.old hf, M.ok, M.us, M.ur, M.sg, M.ln, M.cn, M.dn, M.rs, M.fr.trans hf fun _ h => h.elim⟩
theorem RdM.base (M : RdM B w1 lb db mb p lim ev beg ts L room F N k es used F' wr) (hf : Fr (fun _ => False) w w1) : RdM B w lb db mb p lim ev beg ts L room F N k es used F' wr := by
  obtain ⟨sv, G, h1, h2⟩ := M.lg
  exact ⟨⟨sv, G, h1, fun i hi => Nat.le_trans hf.size (h2 i hi)⟩, M.dk, M.ok, M.us, M.ur, M.sg, M.ln, M.cn, M.dn, M.rs, (hf.mono (S' := fun i => i = lb ∨ DkS db mb L i) fun _ h => h.elim).trans M.fr fun i h => .inl h⟩
theorem RdM.skip (M : RdM B w lb db mb p lim ev beg ts L room F N k es used F' wr) {nm : ByteArray} (hk : N[k]? = some nm) (hno : isOwn p nm = false) (hf : Fr (fun _ => False) wr w1) : RdM B w lb db mb p lim ev beg ts L room F N (k + 1) es used F' w1 := by
  have M1 := M.old hf
  refine ⟨M1.lg, M1.dk, M1.ok, M1.us, M1.ur, M1.sg, M1.ln, ?_, M1.dn, M1.rs, M1.fr⟩
  rw [take_snoc' hk, List.filter_append, List.filter_cons_of_neg (by simp [hno])]
  simpa using M1.cn
/-- The next name of the log's own is that of the next segment. -/
theorem RdM.next (M : RdM B w lb db mb p lim ev beg ts L room F N k es used F' wr) (hN : N.filter (isOwn p) = ts.map fun t => nmS p t.base) {nm : ByteArray} (hk : N[k]? = some nm) (hyes : isOwn p nm = true) : ∃ t, ts[es.length]? = some t ∧ nm = nmS p t.base := by
  have h1 : N = N.take k ++ nm :: N.drop (k + 1) := by
    have hlt := (List.getElem?_eq_some_iff.1 hk).1
    conv => lhs; rw [← List.take_append_drop k N]
    congr 1
    rw [List.drop_eq_getElem_cons hlt]
    congr 1
    exact (List.getElem?_eq_some_iff.1 hk).2
  have h2 : (N.filter (isOwn p))[es.length]? = some nm := by
    rw [h1, List.filter_append, List.filter_cons_of_pos hyes, List.getElem?_append_right (by rw [M.cn]; exact Nat.le_refl _), M.cn, Nat.sub_self]
    rfl
  rw [hN, List.getElem?_map, Option.map_eq_some_iff] at h2
  obtain ⟨t, h3, h4⟩ := h2
  exact ⟨t, h3, h4.symm⟩
theorem RdM.fresh (M : RdM B w lb db mb p lim ev beg ts L room F N k es used F' wr) (h : OpIn p ev ts L F) {t : Seg} (ht : ts[es.length]? = some t) : F' (nmS p t.base) = F (nmS p t.base) := by
  refine M.rs _ fun i t' hi ht' e => ?_
  have hlt := (List.getElem?_eq_some_iff.1 ht).1
  have h1 := nmS_inj (h.bb t (List.mem_of_getElem? ht)) (h.bb t' (List.mem_of_getElem? ht')) e
  have h2 := List.pairwise_iff_getElem.1 h.rise i es.length (by omega) hlt hi
  rw [(List.getElem?_eq_some_iff.1 ht).2, (List.getElem?_eq_some_iff.1 ht').2] at h2
  omega
/-- A segment's file is opened: what the disk holds. -/
theorem open_disk (ho : DkOK room used (-1) L F') (hnd : (L.map (·.1)).Nodup) (hus : used = usd L F') (hur : used ≤ room) {nm txt : ByteArray} {l : List Bat} {e : Int} {q : Nat} (hg : (getL L nm).isSome = true) (hF : F' nm = (txt, txt.size)) (hsc : Scan txt 0 e l q) (hx : txt.extract 0 q = catB l)
    (h1 : q < txt.size → Dk w2 db mb room (used - (txt.size - q)) (burn (-1)) L (updF F' nm (txt.extract 0 q) (min txt.size q))) (h2 : ¬ q < txt.size → Dk w2 db mb room used (-1) L F') :
    ∃ used2 F2, Dk w2 db mb room used2 (-1) L F2 ∧ DkOK room used2 (-1) L F2 ∧ used2 = usd L F2 ∧ used2 ≤ room ∧ F2 nm = (catB l, (catB l).size) ∧ ∀ x, x ≠ nm → F2 x = F' x := by
  obtain ⟨h3, h4, -⟩ := hsc.at'
  have h5 : (catB l).size = q := by rw [catB_size]; omega
  by_cases hq : q < txt.size
  · have hd := h1 hq
    rw [hx, show min txt.size q = q by omega] at hd
    have hb : burn (-1) = -1 := rfl
    rw [hb] at hd
    obtain ⟨fb, hg⟩ := Option.isSome_iff_exists.1 hg
    have hu := usd_upd (F := F') (nm := nm) (t := catB l) (n := q) hnd ⟨_, getL_some hg, rfl⟩
    rw [hF] at hu
    dsimp only at hu
    have hu0 := ho.u0
    refine ⟨_, _, hd, ⟨?_, ?_, ho.fw, fun r hr => ?_⟩, ?_, by omega, by rw [updF_same, h5], fun x hx => updF_ne hx⟩
    · have := usd_mem (F := F') (getL_some hg); rw [hF] at this; dsimp only at this; omega
    · have := ho.u1; omega
    · by_cases e : r.1 = nm
      · rw [e, updF_same]
        have := (ho.fs _ (getL_some hg)).1
        rw [hF] at this
        dsimp only at this ⊢
        omega
      · rw [updF_ne e]; exact ho.fs r hr
    · omega
  · have hqe : q = txt.size := by omega
    rw [hqe, ByteArray.extract_zero_size] at hx
    refine ⟨used, F', h2 hq, ho, hus, hur, by rw [hF, ← hx], fun _ _ => rfl⟩
theorem RdM.step {x : PE} {t : Seg} {sv v' : Value} (M : RdM B w lb db mb p lim ev beg ts L room F N k es used F' wr) (h : OpIn p ev ts L F) (ht : ts[es.length]? = some t) (hk : N[k]? = some (nmS p t.base)) (hxs : x.s = t) (hV : LgV B wr lb db mb p lim ev beg es true L sv G) (hnew : ∀ i, (G i ∨ ∃ e ∈ es, e.S i) → w.heap.size ≤ i)
    (hf2 : Fr (DkS db mb L) wr w2) (hx : Sg B w2 x.sb db (nmS p x.s.base) x.s x.S) (hxS : ∀ i, x.S i → wr.heap.size ≤ i ∧ i < w2.heap.size) (hd : Dk w2 db mb room used2 (-1) L F2) (ho : DkOK room used2 (-1) L F2) (hus : used2 = usd L F2) (hur : used2 ≤ room) (hF2 : F2 (nmS p t.base) = (catB t.l, (catB t.l).size)) (hF : ∀ x, x ≠ nmS p t.base → F2 x = F' x)
    (hf3 : Fr (fun i => i = lb ∨ sv.ownBlock = some i) w2 w3) (hb : w3.heap[lb]? = some (lgObj p lim ev db beg v')) (hown : w3.ownsRow B 96 1 v' (es ++ [x]).length ((es ++ [x]).map segV)) (hv : v'.ownBlock = sv.ownBlock ∨ ∃ g, v'.ownBlock = some g ∧ w2.heap.size ≤ g ∧ g < w3.heap.size) (hB : B ≤ w.heap.size) (hn : es.length < 700) :
    RdM B w lb db mb p lim ev beg ts L room F N (k + 1) (es ++ [x]) used2 F2 w3 := by
  have hV2 := hV.fr hf2 fun i hi => hV.ap i hi
  have hfsz := M.fr.size
  have hV3 := hV2.push hf3 hb hown hv hx (fun i hi => by
    have h1 := hxS i hi
    refine ⟨by omega, h1.2, fun h9 => ?_, fun h9 => ?_⟩
    · have := (hV.lt i h9).2; omega
    · have := M.dk.lt h9; omega) (fun i hi => hd.lt hi) (by omega) (by rw [hxs]; exact h.bb t (List.mem_of_getElem? ht))
  have hlt := (List.getElem?_eq_some_iff.1 ht).1
  have hln : (es ++ [x]).length = es.length + 1 := by simp
  refine ⟨⟨_, _, hV3, fun i hi => ?_⟩, ?_, ho, hus, hur, ?_, by rw [hln]; omega, ?_, fun i t' hi ht' => ?_, fun nm hnm => ?_, (M.fr.trans hf2 fun i hi => .inl (.inr hi)).trans hf3 fun i hi => ?_⟩
  · rcases hi with hi | ⟨e, he, hi⟩
    · rcases hv with h1 | ⟨g, h1, h2, h3⟩
      · rw [h1] at hi; exact hnew i (.inl ((hV.ow rfl).2 i hi))
      · rw [h1] at hi; injection hi with hi; have := hf2.size; omega
    · rcases List.mem_append.1 he with he | he
      · exact hnew i (.inr ⟨e, he, hi⟩)
      · obtain rfl : e = x := by simpa using he
        have := hxS i hi; omega
  · exact hd.fr hf3 fun i hi h1 => by
      rcases h1 with h1 | h1
      · exact hV.ap lb (.inl rfl) (h1 ▸ hi)
      · exact hV.ap i (.inr (.inl ((hV.ow rfl).2 i h1))) hi
  · rw [segs_concat, hln, take_snoc' ht, ← M.sg, hxs]
  · rw [take_snoc' hk, List.filter_append, List.filter_cons_of_pos (show isOwn p (nmS p t.base) = true from nmS_pre p t.base), List.length_append, M.cn, hln]
    rfl
  · rw [hln] at hi
    rcases Nat.lt_or_ge i es.length with h1 | h1
    · rw [hF _ ?_]
      · exact M.dn i t' h1 ht'
      · intro e
        have h2 := nmS_inj (h.bb t' (List.mem_of_getElem? ht')) (h.bb t (List.mem_of_getElem? ht)) e
        have h3 := List.pairwise_iff_getElem.1 h.rise i es.length (by omega) hlt h1
        rw [(List.getElem?_eq_some_iff.1 ht).2, (List.getElem?_eq_some_iff.1 ht').2] at h3
        omega
    · obtain rfl : i = es.length := by omega
      rw [ht] at ht'
      injection ht' with ht'
      subst ht'
      exact hF2
  · rw [hF nm (hnm es.length t (by rw [hln]; omega) ht)]
    exact M.rs nm fun i t' hi ht' => hnm i t' (by rw [hln]; omega) ht'
  · rcases hi with hi | hi
    · exact .inl (.inl hi)
    · exact .inr (hnew i (.inl ((hV.ow rfl).2 i hi)))
end
section
variable {B : Nat} {w w' w1 w2 w3 wr : World} {lb db mb : Nat} {p : ByteArray} {lim ev : Nat} {beg : Int} {es es' : List PE} {own own' : Bool} {L L' : List Row} {S S' : Nat → Prop} {room used fuse used' fuse' used2 : Int} {F F' F2 : ByteArray → ByteArray × Nat} {G : Nat → Prop} {n j k : Nat} {ts : List Seg} {N : List ByteArray}
def RdAllPost (B : Nat) (w : World) (lb db mb : Nat) (p : ByteArray) (lim ev : Nat) (beg : Int) (ts : List Seg) (L : List Row) (room : Int) (F : ByteArray → ByteArray × Nat) (e : Ending) (w' : World) : Prop :=
  e = .returned (.int .i64 0) ∧ ∃ k es used' F', RdM B w lb db mb p lim ev beg ts L room F (sortB (L.map (·.1))) k es used' F' w' ∧ es.length = ts.length
set_option maxHeartbeats 16000000 in
theorem readAll_walk (hV0 : LgV B w lb db mb p lim ev beg [] true L (.slice none 0 0) (fun _ => False)) (hd : Dk w db mb room used (-1) L F) (ho : DkOK room used (-1) L F) (hus : used = usd L F) (hur : used ≤ room) (hrm : room ≤ 4194304) (hin : OpIn p ev ts L F) (hst : StepsOK w) (hB : B ≤ w.heap.size) (hB1 : 1 ≤ B) (hlen : L.length ≤ 700) (hdb : ∀ i, DkS db mb L i → B ≤ i) :
    Calls Tryz.prog 46 #[.pointer (some ⟨lb, 0, none⟩)] w (RdAllPost B w lb db mb p lim ev beg ts L room F) := by
  have hnd := hd.m.1.nodup
  have hON := own_names hin hnd
  have hlN : (sortB (L.map (·.1))).length = L.length := by rw [(sortB_perm _).length_eq, List.length_map]
  have htl : ts.length ≤ L.length := by
    have h1 := congrArg List.length hON
    rw [List.length_map] at h1
    have h2 := List.length_filter_le (isOwn p) (sortB (L.map (·.1)))
    omega
  have hNM := names_walk hd (by decide)
  have c3 : w.cell? ⟨lb, 3, none⟩ = some (.pointer (some ⟨db, 0, none⟩)) := (cell_of hV0.b 3).trans rfl
  have hlblt := lt_of_heap hV0.b
  have HP := Lib.hid (And.intro hV0.p1 (And.intro hV0.p2 (And.intro hV0.e1 hV0.e2)))
  have hlbB := (hV0.lt lb (.inl rfl)).1
  have HLB := Lib.hid hlbB
  have HDLT := Lib.hid (fun i (h : DkS db mb L i) => hd.lt h)
  have HDB := Lib.hid hdb
  obtain ⟨N, hNe⟩ : ∃ N, N = sortB (L.map (·.1)) := ⟨_, rfl⟩
  unfold RdAllPost
  rw [← hNe] at hON hlN hNM ⊢
  rw [← hlN] at hNM hlen
  have HN := Lib.hid hNM
  have HON := Lib.hid hON
  have HLN := Lib.hid hlen
  have HTL := Lib.hid (show ts.length ≤ 700 from by omega)
  have HIN := Lib.hid hin
  have HST := Lib.hid hst
  have HND := Lib.hid hnd
  have H0 := Lib.hid (And.intro hV0 (And.intro hd (And.intro ho (And.intro hus hur))))
  clear hV0 hd ho hus hur hin hst hON hNM hlen hlN htl hNe hnd hlbB hdb
  go_enter Tryz.func46, Tryz.ntmps46
  go_wp2_with fail
  refine HN.out.mono ?_
  rintro e w1 ⟨v, rfl, hown, hf⟩
  obtain ⟨no, nc, rfl, hcells⟩ := own_at hown
  have M1 := Lib.hid (show RdM B w1 lb db mb p lim ev beg ts L room F N 0 [] used F w1 from
    ⟨⟨_, _, H0.out.1.fr hf fun _ _ h => h, fun i hi => hi.elim (fun h => h.elim) fun ⟨e, he, _⟩ => (by cases he)⟩, H0.out.2.1.old hf, H0.out.2.2.1, H0.out.2.2.2.1, H0.out.2.2.2.2, rfl, Nat.zero_le _, rfl, fun i t hi => absurd hi (by simp), fun _ _ => rfl, Fr.refl _ _⟩)
  have hB1w : B ≤ w1.heap.size := Nat.le_trans hB hf.size
  have hcl : ∀ (k : Nat) nm, N[k]? = some nm → ∃ a, no = some a ∧ w1.cell? (a.add k) = some (.string nm) ∧ ¬ (a.block = lb ∨ DkS db mb L a.block) := fun k nm hk => by
    have hlt := (List.getElem?_eq_some_iff.1 hk).1
    obtain ⟨g, rfl, -, hBg, hc⟩ := hcells (by omega)
    refine ⟨_, rfl, ?_, fun h => ?_⟩
    · rw [add_lit]
      exact hc k _ (by rw [keyC_map, List.getElem?_map, hk]; rfl)
    · rcases h with h | h
      · have : g = lb := h
        omega
      · have := HDLT.out _ h
        have h9 : (⟨g, 0, none⟩ : Addr).block = g := rfl
        rw [h9] at this
        omega
  have HCL := Lib.hid hcl
  have F01 := Lib.hid hf
  clear hown hcells hcl hf H0 HN c3
  go_wp2_with fail
  go_loopw [16] (fun i wr => ∃ (k : Nat) (es : List PE) (used' : Int) (F' : ByteArray → ByteArray × Nat), i = .int .i64 k ∧ k ≤ N.length ∧ RdM B w1 lb db mb p lim ev beg ts L room F N k es used' F' wr) (fun i _ => N.length - (intOf i).toNat)
  case atStart => exact ⟨0, [], used, F, rfl, Nat.zero_le _, M1.out⟩
  case round =>
    obtain ⟨k, es, used', F', rfl, hkl, hM⟩ := hrel
    have M := Lib.hid hM
    clear hM M1
    rcases Nat.lt_or_ge k N.length with hlt | hge
    case inr =>
      obtain rfl : k = N.length := by omega
      go_wp2_with fail
      go_ret
      refine ⟨rfl, N.length, es, used', F', M.out.base F01.out, ?_⟩
      have h1 := M.out.cn
      rw [List.take_length, HON.out, List.length_map] at h1
      exact h1.symm
    case inl =>
      obtain ⟨nm, hnm⟩ := get_of_lt hlt
      obtain ⟨a, hao, hca, hna⟩ := HCL.out k nm hnm
      have hca := M.out.fr.cell hca (by rw [add_block]; exact hna)
      obtain ⟨sv, G, hV, hnew⟩ := M.out.lg
      have k0 : wr.cell? ⟨lb, 0, none⟩ = some (.string p) := (cell_of hV.b 0).trans rfl
      have k1 : wr.cell? ⟨lb, 1, none⟩ = some (.int .i64 lim) := (cell_of hV.b 1).trans rfl
      have k2 : wr.cell? ⟨lb, 2, none⟩ = some (.int .i64 ev) := (cell_of hV.b 2).trans rfl
      have HV := Lib.hid hV
      have HNEW := Lib.hid hnew
      have HNM := Lib.hid hnm
      subst hao
      clear hV hnew hna
      cases hyes : isOwn p nm
      case false =>
        have hbn := fun w2 => base_no p nm lim ev w2 HP.out.2.1 hyes
        unfold cfgV BasePost at hbn
        have HBN := Lib.hid hbn
        have HY := Lib.hid hyes
        clear hbn hnm hyes
        have hk7 := HLN.out
        go_wp2_with fail
        refine (HBN.out _).mono ?_
        rintro e w2 ⟨rfl, hf2⟩
        have M2 := Lib.hid (M.out.skip HNM.out HY.out hf2)
        clear hf2
        go_wp2_with fail
        go_roundw
        case rel => exact ⟨k + 1, es, used', F', by go_num, hlt, M2.out⟩
        case measure => simp [intOf]; omega
      case true =>
        obtain ⟨t, ht, hnt⟩ := M.out.next HON.out hnm hyes
        subst hnt
        have hbb := HIN.out.bb t (List.mem_of_getElem? ht)
        have hby := fun w2 => base_yes p t.base lim ev w2 HP.out.2.1 hbb
        unfold cfgV BasePost at hby
        have HBY := Lib.hid hby
        have HT := Lib.hid ht
        clear hby hnm hyes ht
        go_wp2_with fail
        refine (HBY.out _).mono ?_
        rintro e w2 ⟨rfl, hf2⟩
        have M2 := Lib.hid (M.out.old hf2)
        have HV2 := Lib.hid (HV.out.fr hf2 fun _ _ h => h)
        have hdlb : ¬ DkS db mb L lb := HV2.out.ap lb (.inl rfl)
        have z2 : ∀ y : Lcl.InS (fun w' => Fr (DkS db mb L) w2 w'), y.w.cell? ⟨lb, 2, none⟩ = some (.int .i64 ev) := fun y => y.h.cell ((cell_of HV2.out.b 2).trans rfl) hdlb
        have z3 : ∀ y : Lcl.InS (fun w' => Fr (DkS db mb L) w2 w'), y.w.cell? ⟨lb, 3, none⟩ = some (.pointer (some ⟨db, 0, none⟩)) := fun y => y.h.cell ((cell_of HV2.out.b 3).trans rfl) hdlb
        clear hf2 HV M k0 k1 k2 hca hdlb
        go_wp2_with fail
        refine Lcl.wp_region_calm (by kernel_rfl) [(true, [0, 1, 2, 4, 5, 6, 7, 8, 9]), (false, [3, 10])] #[0, 1, 3, 7, 0, 0, 0, 64, 192, 448, 960, 2047, 4095, 8191, 8191, 16383, 65535] [0, 1, 2, 3, 4, 5, 6, 7, 8, 9, 10] 6 #[true, true, true, true, true, true, true, true, true, true, true, false, false, false, false, false, false] (by kernel_rfl) (by kernel_rfl) (by kernel_rfl) (fun w' => Fr (DkS db mb L) w2 w') (Fr.refl _ w2).drew (fun d c a v w h => by cases d <;> exact h) ?_
        simp only [Lcl.opsOf, List.map_cons, List.map_nil, List.getElem?_toArray, List.getElem?_cons_succ, List.getElem?_cons_zero, Option.getD_some]
        refine Lcl.wpCalm_t ?_
        repeat (go_big_quiet_step (rfl))
        refine wpQuiet_nil ?_
        refine Lcl.wpCalm_f ?_
        repeat (go_big_quiet_step (rfl))
        refine wpQuiet_nil ?_
        refine Lcl.wpCalm_nil ?_
        clear z2 z3
        have Q3 := Lib.hid ((Fr.same w2).drew)
        have Q3D := Lib.hid (Q3.out.mono (S' := DkS db mb L) fun i h => h.elim)
        have M3 := Lib.hid (M2.out.old Q3.out)
        have HV3 := Lib.hid (HV2.out.fr Q3.out fun _ _ h => h)
        generalize w2.drew = w3 at *
        have hgs := HIN.out.has t (List.mem_of_getElem? HT.out)
        obtain ⟨q, hsc, hx, hsz⟩ := HIN.out.scan t (List.mem_of_getElem? HT.out)
        have hFt := M3.out.fresh HIN.out HT.out
        obtain ⟨txt, htx⟩ : ∃ txt, txt = (F (nmS p t.base)).1 := ⟨_, rfl⟩
        have hF1 : F' (nmS p t.base) = (txt, txt.size) := by rw [hFt, htx, ← hsz]
        rw [← htx] at hsc hx
        obtain ⟨fb, hg⟩ := Option.isSome_iff_exists.1 hgs
        have htm : txt.size ≤ 900000000 := by
          have h1 := usd_mem (F := F') (getL_some hg)
          rw [hF1] at h1
          have h2 := M3.out.us
          have h3 := M3.out.ur
          dsimp only at h1
          omega
        have hnm := nmS_size p t.base
        have hp1 := HP.out.1
        have hp2 := HP.out.2.1
        have hBw : B ≤ w3.heap.size := by have := M3.out.fr.size; omega
        have HOP := Lib.hid (sopen_some (B := B) M3.out.dk M3.out.ok (by decide) (nmS p t.base) (by omega) (by omega) t.base ev hbb HP.out.2.2.1 HP.out.2.2.2 hg txt txt.size hF1 htm t.l q hsc (HST.out.fr (M3.out.base F01.out).fr fun h => by
          rcases h with h | h
          · have := HLB.out; omega
          · have := HDB.out _ h; omega) (by have := HIN.out.len t (List.mem_of_getElem? HT.out); omega) hBw (by omega))
        have HSC := Lib.hid (And.intro hsc (And.intro hx (And.intro hF1 hgs)))
        clear hsc hx hsz hFt htx hF1 hg hgs htm hnm hp1 hp2 hBw
        refine Lcl.wpG_one 11 rfl (by kernel_rfl) ?_
        go_wp2_with fail
        refine HOP.out.mono ?_
        rintro e wo ⟨sb, So, rfl, hso, hSo, hcut, hsame, hfo⟩
        obtain ⟨used2, F2, hd2, ho2, hus2, hur2, hF2, hF2n⟩ := open_disk M3.out.ok HND.out M3.out.us M3.out.ur HSC.out.2.2.2 HSC.out.2.2.1 HSC.out.1 HSC.out.2.1 hcut hsame
        have FO := Lib.hid hfo
        have SO := Lib.hid hso
        have SOL := Lib.hid hSo
        have D2 := Lib.hid (And.intro hd2 (And.intro ho2 (And.intro hus2 (And.intro hur2 (And.intro hF2 hF2n)))))
        have HVo := Lib.hid (HV3.out.fr hfo fun i hi => HV3.out.ap i hi)
        have hlo : lb < wo.heap.size := lt_of_heap HVo.out.b
        clear hfo hso hSo hcut hsame hd2 ho2 hus2 hur2 hF2 hF2n HOP
        go_wp2_with fail
        refine ⟨fun h => absurd h (by decide), ?_⟩
        refine Lcl.wpG_one 12 rfl (by kernel_rfl) ?_
        go_wp2_with fail
        refine ⟨fun h => absurd h (by decide), ?_⟩
        refine Lcl.wpG_calm (m := #[0, 1, 3, 7, 0, 0, 0, 64, 192, 448, 960, 2047, 4095, 8191, 8191, 16383, 65535]) (needs := [0, 1, 2, 3, 4, 5, 6, 7, 8, 9, 10]) (fuel := 0) (by kernel_rfl) ?hqA (Q3D.out.trans FO.out fun i h => .inl h) [(true, [13, 14, 15, 16])] _ _ ?k1A ?k2A ?k3A ?k4A
        case hqA => exact fun d c a v w h => by cases d <;> exact h
        case k1A => kernel_rfl
        case k2A => rfl
        case k3A => kernel_rfl
        simp only [Lcl.opsOf, List.map_cons, List.map_nil, List.getElem?_toArray, List.getElem?_cons_succ, List.getElem?_cons_zero, Option.getD_some]
        refine Lcl.wpCalm_t ?_
        repeat (go_big_quiet_step (rfl))
        refine wpQuiet_nil ?_
        refine Lcl.wpCalm_nil ?_
        refine Lcl.wpG_run [] _ _ _ (by kernel_rfl) ?_
        simp only [List.map_cons, List.map_nil, List.getElem?_toArray, List.getElem?_cons_succ, List.getElem?_cons_zero, Option.getD_some]
        obtain ⟨oa2, cap2, hsv, hcl2, -, hrd⟩ := HVo.out.rd
        have hown := (HVo.out.ow rfl).1
        obtain ⟨m, hm⟩ : ∃ m, m = es.length := ⟨_, rfl⟩
        obtain ⟨xs, hxs⟩ : ∃ xs, xs = es.map segV := ⟨_, rfl⟩
        rw [← hm] at hsv hown
        rw [← hxs] at hown
        subst hsv
        have HM := Lib.hid hm
        have HXS := Lib.hid hxs
        have HRD := Lib.hid hrd
        have k5 : wo.cell? ⟨lb, 5, none⟩ = some (.slice oa2 m cap2) := (cell_of HVo.out.b 5).trans rfl
        have HOWN := Lib.hid hown
        clear hown hxs hrd hm hcl2
        have hm7 : m ≤ 700 := by have := HM.out; have := M3.out.ln; have := HTL.out; omega
        rcases Nat.eq_zero_or_pos m with hm0 | hm0
        · subst hm0
          have halb : (wo.alloc (.cells #[.pointer (some ⟨sb, 0, none⟩)] 96)).heap[lb]? = _ := (heap_alloc_lt _ (lt_of_heap HVo.out.b)).trans HVo.out.b
          have ALB := Lib.hid halb
          have OWN := Lib.hid (own_eq (w' := wo.alloc (.cells #[.pointer (some ⟨sb, 0, none⟩)] 96)) HOWN.out fun k hk => heap_alloc_lt _ (own_lt HOWN.out hk).2)
          have CN := Lib.hid (show (wo.alloc (.cells #[.pointer (some ⟨sb, 0, none⟩)] 96)).cell? ⟨wo.heap.size, 0, none⟩ = some (.pointer (some ⟨sb, 0, none⟩)) from cell_alloc_new _ _ _ 0)
          have HBO := Lib.hid (show B ≤ wo.heap.size from by have := M3.out.fr.size; have := FO.out.size; omega)
          clear halb
          go_wp2_with (at_builtin; refine wpList_push_seg _ rfl (.tmp 73) (.tmp 75) rfl B (.slice oa2 0 cap2) 0 xs rfl OWN.out wo.heap.size 1 rfl (some ⟨sb, 0, none⟩) CN.out ?len0 ?hB0 ?_)
          case len0 => omega
          case hB0 => have := HBO.out; simp; omega
          intro v3 wa ho3 hg3 hb3
          obtain ⟨oa3, cap3, hv3, hoa3, hno3⟩ := own_slice ho3
          subst hv3
          have hgne : ∀ k, (Value.slice oa2 0 cap2).ownBlock = some k → k ≠ lb := fun k hk => HVo.out.nb k (.inl ((HVo.out.ow rfl).2 k hk))
          have hlb3 : wa.heap[lb]? = some (lgObj p lim ev db beg (.slice oa2 0 cap2)) := (hg3.block lb (lt_of_heap ALB.out) fun e => hgne lb e.symm rfl).trans ALB.out
          have k5' : wa.cell? ⟨lb, 5, none⟩ = some (.slice oa2 0 cap2) := (cell_of hlb3 5).trans rfl
          have f5' := fz_of hlb3 5
          have hfa : Fr (fun i => i = lb ∨ (Value.slice oa2 0 cap2).ownBlock = some i) wo wa := ((Fr.refl _ wo).alloc _).grown hg3 fun k hk => .inl (.inr hk)
          have hfb : Fr (fun i => i = lb ∨ (Value.slice oa2 0 cap2).ownBlock = some i) wo (wa.setCell ⟨lb, 5, none⟩ (.slice oa3 (0 + 1) cap3)) := hfa.setCell (p := ⟨lb, 5, none⟩) (.inl (.inl rfl)) _
          have hbb2 : (wa.setCell ⟨lb, 5, none⟩ (.slice oa3 (0 + 1) cap3)).heap[lb]? = some (lgObj p lim ev db beg (.slice oa3 (0 + 1) cap3)) := by
            rw [heap_setCell_self hlb3]; rfl
          have hne3 : (Value.slice oa3 (0 + 1) cap3).ownBlock ≠ some lb := fun e => by
            rcases hb3 with h1 | h1
            · rw [h1] at e; exact hgne lb e rfl
            · rw [h1] at e
              injection e with e
              have := lt_of_heap ALB.out
              have h9 := lt_of_heap HVo.out.b
              try simp at e
              omega
          have hob : (wa.setCell ⟨lb, 5, none⟩ (.slice oa3 (0 + 1) cap3)).ownsRow B 96 1 (.slice oa3 (0 + 1) cap3) (0 + 1) (xs ++ [.pointer (some ⟨sb, 0, none⟩)]) :=
            own_eq ho3 fun k hk => heap_setCell_ne _ (fun e => hne3 (by rw [hk, e])) _
          have hvb : (Value.slice oa3 (0 + 1) cap3).ownBlock = (Value.slice oa2 0 cap2).ownBlock ∨ ∃ g, (Value.slice oa3 (0 + 1) cap3).ownBlock = some g ∧ wo.heap.size ≤ g ∧ g < (wa.setCell ⟨lb, 5, none⟩ (.slice oa3 (0 + 1) cap3)).heap.size := by
            rcases hb3 with h1 | h1
            · exact .inl h1
            · right
              refine ⟨_, h1, by simp, ?_⟩
              exact (own_lt hob h1).2
          clear ho3 hg3 hb3 hoa3 hno3 hfa OWN CN
          have hk7 := HLN.out
          go_wp2_with fail
          have hw5 : ∃ w5, w5 = wa.setCell ⟨lb, 5, none⟩ (.slice oa3 (0 + 1) cap3) := ⟨_, rfl⟩
          obtain ⟨w5, hw5⟩ := hw5
          rw [← hw5] at hfb hbb2 hob hvb ⊢
          obtain ⟨x, hx⟩ : ∃ x : PE, x = ⟨sb, ⟨t.base, ev, t.l⟩, So⟩ := ⟨_, rfl⟩
          have hxs : x.s = t := by rw [hx]; have := HIN.out.evs t (List.mem_of_getElem? HT.out); rw [← this]
          have hx3 : segV x = .pointer (some ⟨sb, 0, none⟩) := by rw [hx]; rfl
          have hstep := M3.out.step (x := x) HIN.out HT.out HNM.out hxs HV3.out HNEW.out FO.out (by rw [hx]; exact SO.out) (by rw [hx]; exact SOL.out) D2.out.1 D2.out.2.1 D2.out.2.2.1 D2.out.2.2.2.1 D2.out.2.2.2.2.1 D2.out.2.2.2.2.2 hfb hbb2 (by
            rw [List.length_append, List.length_singleton, ← HM.out, List.map_append, List.map_singleton, hx3, ← HXS.out]
            exact hob) hvb hB1w (by have := (List.getElem?_eq_some_iff.1 HT.out).1; have := HTL.out; omega)
          have HSTEP := Lib.hid hstep
          clear hstep hfb hbb2 hob hvb hx hxs hx3 k5' f5' hlb3 hne3 hgne k5 hw5
          go_roundw
          case rel => exact ⟨k + 1, es ++ [x], used2, F2, by go_num, hlt, HSTEP.out⟩
          case measure => simp [intOf]; omega
        · have hidx : ((m : Nat) : Int) - 1 = ((m - 1 : Nat) : Int) := by omega
          have hgt : (0 : Int) < (m : Int) := by omega
          obtain ⟨y, hy⟩ := get_of_lt (l := es) (k := m - 1) (by have := HM.out; omega)
          obtain ⟨a2, ha2, hc2, -⟩ := HRD.out _ y hy
          subst ha2
          unfold segV at hc2
          have HE := Lib.hid (send_walk (HVo.out.sg y (List.mem_of_getElem? hy)))
          have hyt : ts[m - 1]? = some y.s := by
            have h1 : (segsOf es)[m - 1]? = some y.s := by unfold segsOf; rw [List.getElem?_map, hy]; rfl
            rw [M3.out.sg, List.getElem?_take_of_lt (by have := HM.out; omega)] at h1
            exact h1
          have hlow : ¬ (t.base : Int) < y.s.end' := by
            have h1 := List.pairwise_iff_getElem.1 HIN.out.rise (m - 1) es.length (List.getElem?_eq_some_iff.1 hyt).1 (List.getElem?_eq_some_iff.1 HT.out).1 (by have := HM.out; omega)
            rw [(List.getElem?_eq_some_iff.1 hyt).2, (List.getElem?_eq_some_iff.1 HT.out).2] at h1
            omega
          have HHY := Lib.hid (And.intro hy hyt)
          clear hy hyt
          go_wp2_with fail
          refine HE.out.mono ?_
          rintro e w9 ⟨rfl, rfl⟩
          clear hc2 HE
          have halb : (wo.alloc (.cells #[.pointer (some ⟨sb, 0, none⟩)] 96)).heap[lb]? = _ := (heap_alloc_lt _ (lt_of_heap HVo.out.b)).trans HVo.out.b
          have ALB := Lib.hid halb
          have OWN := Lib.hid (own_eq (w' := wo.alloc (.cells #[.pointer (some ⟨sb, 0, none⟩)] 96)) HOWN.out fun k hk => heap_alloc_lt _ (own_lt HOWN.out hk).2)
          have CN := Lib.hid (show (wo.alloc (.cells #[.pointer (some ⟨sb, 0, none⟩)] 96)).cell? ⟨wo.heap.size, 0, none⟩ = some (.pointer (some ⟨sb, 0, none⟩)) from cell_alloc_new _ _ _ 0)
          have HBO := Lib.hid (show B ≤ wo.heap.size from by have := M3.out.fr.size; have := FO.out.size; omega)
          clear halb
          go_wp2_with (at_builtin; refine wpList_push_seg _ rfl (.tmp 73) (.tmp 75) rfl B (.slice (some a2) m cap2) m xs rfl OWN.out wo.heap.size 1 rfl (some ⟨sb, 0, none⟩) CN.out ?len1 ?hB1 ?_)
          case len1 => omega
          case hB1 => have := HBO.out; simp; omega
          intro v3 wa ho3 hg3 hb3
          obtain ⟨oa3, cap3, hv3, hoa3, hno3⟩ := own_slice ho3
          subst hv3
          have hgne : ∀ k, (Value.slice (some a2) m cap2).ownBlock = some k → k ≠ lb := fun k hk => HVo.out.nb k (.inl ((HVo.out.ow rfl).2 k hk))
          have hlb3 : wa.heap[lb]? = some (lgObj p lim ev db beg (.slice (some a2) m cap2)) := (hg3.block lb (lt_of_heap ALB.out) fun e => hgne lb e.symm rfl).trans ALB.out
          have k5' : wa.cell? ⟨lb, 5, none⟩ = some (.slice (some a2) m cap2) := (cell_of hlb3 5).trans rfl
          have f5' := fz_of hlb3 5
          have hfa : Fr (fun i => i = lb ∨ (Value.slice (some a2) m cap2).ownBlock = some i) wo wa := ((Fr.refl _ wo).alloc _).grown hg3 fun k hk => .inl (.inr hk)
          have hfb : Fr (fun i => i = lb ∨ (Value.slice (some a2) m cap2).ownBlock = some i) wo (wa.setCell ⟨lb, 5, none⟩ (.slice oa3 (m + 1) cap3)) := hfa.setCell (p := ⟨lb, 5, none⟩) (.inl (.inl rfl)) _
          have hbb2 : (wa.setCell ⟨lb, 5, none⟩ (.slice oa3 (m + 1) cap3)).heap[lb]? = some (lgObj p lim ev db beg (.slice oa3 (m + 1) cap3)) := by
            rw [heap_setCell_self hlb3]; rfl
          have hne3 : (Value.slice oa3 (m + 1) cap3).ownBlock ≠ some lb := fun e => by
            rcases hb3 with h1 | h1
            · rw [h1] at e; exact hgne lb e rfl
            · rw [h1] at e
              injection e with e
              have := lt_of_heap ALB.out
              have h9 := lt_of_heap HVo.out.b
              try simp at e
              omega
          have hob : (wa.setCell ⟨lb, 5, none⟩ (.slice oa3 (m + 1) cap3)).ownsRow B 96 1 (.slice oa3 (m + 1) cap3) (m + 1) (xs ++ [.pointer (some ⟨sb, 0, none⟩)]) :=
            own_eq ho3 fun k hk => heap_setCell_ne _ (fun e => hne3 (by rw [hk, e])) _
          have hvb : (Value.slice oa3 (m + 1) cap3).ownBlock = (Value.slice (some a2) m cap2).ownBlock ∨ ∃ g, (Value.slice oa3 (m + 1) cap3).ownBlock = some g ∧ wo.heap.size ≤ g ∧ g < (wa.setCell ⟨lb, 5, none⟩ (.slice oa3 (m + 1) cap3)).heap.size := by
            rcases hb3 with h1 | h1
            · exact .inl h1
            · right
              refine ⟨_, h1, by simp, ?_⟩
              exact (own_lt hob h1).2
          clear ho3 hg3 hb3 hoa3 hno3 hfa OWN CN
          have hk7 := HLN.out
          go_wp2_with fail
          have hw5 : ∃ w5, w5 = wa.setCell ⟨lb, 5, none⟩ (.slice oa3 (m + 1) cap3) := ⟨_, rfl⟩
          obtain ⟨w5, hw5⟩ := hw5
          rw [← hw5] at hfb hbb2 hob hvb ⊢
          obtain ⟨x, hx⟩ : ∃ x : PE, x = ⟨sb, ⟨t.base, ev, t.l⟩, So⟩ := ⟨_, rfl⟩
          have hxs : x.s = t := by rw [hx]; have := HIN.out.evs t (List.mem_of_getElem? HT.out); rw [← this]
          have hx3 : segV x = .pointer (some ⟨sb, 0, none⟩) := by rw [hx]; rfl
          have hstep := M3.out.step (x := x) HIN.out HT.out HNM.out hxs HV3.out HNEW.out FO.out (by rw [hx]; exact SO.out) (by rw [hx]; exact SOL.out) D2.out.1 D2.out.2.1 D2.out.2.2.1 D2.out.2.2.2.1 D2.out.2.2.2.2.1 D2.out.2.2.2.2.2 hfb hbb2 (by
            rw [List.length_append, List.length_singleton, ← HM.out, List.map_append, List.map_singleton, hx3, ← HXS.out]
            exact hob) hvb hB1w (by have := (List.getElem?_eq_some_iff.1 HT.out).1; have := HTL.out; omega)
          have HSTEP := Lib.hid hstep
          clear hstep hfb hbb2 hob hvb hx hxs hx3 k5' f5' hlb3 hne3 hgne k5 hw5
          go_roundw
          case rel => exact ⟨k + 1, es ++ [x], used2, F2, by go_num, hlt, HSTEP.out⟩
          case measure => simp [intOf]; omega
end
end Go.Proofs.YtdlnafhhkpklmaaGreatDoor

/- A log is opened: what it stands on; its small closures. -/
namespace Go.Proofs.YtdlnafhhkpklmaaGreatDoor
open Go.RowKit Go.Fm Go.BigFrame Go.Shelf Go.Maps
set_option linter.unusedVariables false
set_option linter.unusedSimpArgs false
set_option maxRecDepth 100000

section
variable {B : Nat} {w w' w1 w2 w3 wr : World} {lb db mb : Nat} {p : ByteArray} {lim ev : Nat} {beg : Int} {es es' : List PE} {own own' : Bool} {L L' : List Row} {S S' : Nat → Prop} {room used fuse used' fuse' used2 : Int} {F F' F2 : ByteArray → ByteArray × Nat} {G : Nat → Prop} {n j k : Nat} {ts : List Seg} {N : List ByteArray}
theorem OpIn.del (h : OpIn p ev ts L F) {nm : ByteArray} (hn : isOwn p nm = false) : OpIn p ev ts (delL L nm) F := by
  have hne : ∀ t : Seg, nmS p t.base ≠ nm := fun t e => by
    have h1 := nmS_pre p t.base
    rw [e] at h1
    unfold isOwn at hn
    rw [hn] at h1
    cases h1
  refine ⟨fun x h1 h2 => ?_, fun t ht => by rw [getL_del, if_neg (hne t)]; exact h.has t ht, h.scan, h.rise, h.bb, h.len, h.full, h.evs⟩
  rw [getL_del] at h1
  split at h1
  · cases h1
  · exact h.own x h1 h2
theorem del_none {nm : ByteArray} (h : getL L nm = none) : delL L nm = L := by
  unfold delL
  refine List.filter_eq_self.2 fun r hr => ?_
  simp only [decide_eq_true_eq, ne_eq]
  intro e
  have : (getL L nm).isSome = true := getL_in.2 (List.mem_map.2 ⟨r, hr, e⟩)
  rw [h] at this
  cases this
/-- The disk alone: sound, and its numbers. -/
structure DkN (w : World) (db mb : Nat) (room used : Int) (L : List Row) (F : ByteArray → ByteArray × Nat) : Prop where
  dk : Dk w db mb room used (-1) L F
  ok : DkOK room used (-1) L F
  us : used = usd L F
  ur : used ≤ room
theorem DkN.fr {R : Nat → Prop} (h : DkN w db mb room used L F) (hf : Fr R w w') (hS : ∀ i, DkS db mb L i → ¬ R i) : DkN w' db mb room used L F := ⟨h.dk.fr hf hS, h.ok, h.us, h.ur⟩
theorem DkN.old (h : DkN w db mb room used L F) (hf : Fr (fun _ => False) w w') : DkN w' db mb room used L F := h.fr hf fun _ _ h => h
theorem ldrop_n (hc : w.cell? ⟨lb, 3, none⟩ = some (.pointer (some ⟨db, 0, none⟩))) (h : DkN w db mb room used L F) (nm : ByteArray) (h2 : nm.size ≤ 40) :
    Calls Tryz.prog 42 #[.pointer (some ⟨lb, 0, none⟩), .string nm] w fun e w' => e = .returned (.int .i64 0) ∧ ∃ used2, DkN w' db mb room used2 (delL L nm) F ∧ used2 ≤ used ∧ Fr (DkS db mb L) w w' := by
  refine (ldrop_walk hc h.dk h.ok nm h2).mono ?_
  rintro e w1 ⟨rfl, hok, hno⟩
  cases hg : getL L nm with
  | none =>
    have hcode : synCode (-1) L nm = 6 := by unfold synCode; rw [if_neg (by decide), hg]; rfl
    rw [hcode] at hok hno ⊢
    have hf := hno (by decide)
    rw [del_none hg]
    exact ⟨rfl, used, h.old hf, Int.le_refl _, hf.mono fun i h => h.elim⟩
  | some fb =>
    have hcode : synCode (-1) L nm = 0 := by unfold synCode; rw [if_neg (by decide), hg]; rfl
    rw [hcode] at hok hno ⊢
    obtain ⟨hd, hf⟩ := hok rfl
    have hu := usd_del (F := F) (nm := nm) h.dk.m.1.nodup ⟨_, getL_some hg, rfl⟩
    have h3 := h.us
    have h4 := h.ok.u0
    have h5 := h.ok.u1
    have h6 := h.ur
    refine ⟨rfl, _, ⟨hd, ⟨by omega, by omega, h.ok.fw, fun r hr => h.ok.fs r (del_mem hr).1⟩, by omega, by omega⟩, by omega, hf⟩
theorem RdM.logD (M : RdM B w lb db mb p lim ev beg ts L room F N k es used F' wr) (hlen : es.length = ts.length) (h : OpIn p ev ts L F) (hs : (getL L (startS p) = none ∧ beg = 0) ∨ ((getL L (startS p)).isSome = true ∧ F (startS p) = (fix8 beg.toNat, 8)))
    (hrm : room ≤ 4194304) (hdl : ∀ i, DkS db mb L i → B ≤ i) (hB : 1 ≤ B) (hL : L.length ≤ n) (hE : ts.length ≤ n) (hb : (catL ts).length ≤ n) (hn : n ≤ 700) (hbe : beg ≤ ssEnd beg ts) :
    ∃ S, LogD B wr lb db mb p lim ev beg es true L S room used (-1) F' n ∧ LastSafeE p es L F' ∧ segsOf es = ts ∧ ∀ i, S i → i = lb ∨ w.heap.size ≤ i := by
  have hsg : segsOf es = ts := by rw [M.sg, hlen, List.take_length]
  obtain ⟨sv, G, hV, hnew⟩ := M.lg
  have hcf : ∀ t ∈ ts, curF L F' (nmS p t.base) = (catB t.l, (catB t.l).size) := fun t ht => by
    obtain ⟨fb, hg⟩ := Option.isSome_iff_exists.1 (h.has t ht)
    rw [curF_some hg]
    obtain ⟨i, hi, e⟩ := List.getElem_of_mem ht
    exact M.dn i t (by omega) (by rw [List.getElem?_eq_getElem hi, e])
  have hst : F' (startS p) = F (startS p) := M.rs _ fun i t _ _ => start_ne p t.base
  refine ⟨_, ⟨⟨sv, G, hV, fun i => Iff.rfl⟩, M.dk, M.ok, M.us, M.ur, hrm, ?_, hdl, hB, hL, by omega, by rw [hsg]; exact hb, hn, ?_⟩, fun s hs => ?_, hsg, fun i hi => ?_⟩
  · rw [hsg]
    exact ⟨fun t ht => by rw [hcf t ht], fun t ht => hcf t ((List.dropLast_sublist _).subset ht), fun nm h1 h2 => h.own nm h1 h2, by rw [hst]; exact hs, h.rise, h.bb, h.full⟩
  · rw [← ssEnd_map]
    show beg ≤ ssEnd beg (segsOf es)
    rw [hsg]
    exact hbe
  · rw [hsg] at hs
    exact hcf s (List.mem_of_getLast? hs)
  · rcases hi with hi | hi | hi
    · exact .inl hi
    · exact .inr (hnew i (.inl hi))
    · exact .inr (hnew i (.inr hi))
/-- The closures of Open that drop a file. -/
def DropDo (w : World) (db mb : Nat) (room used : Int) (L : List Row) (F : ByteArray → ByteArray × Nat) (nm : ByteArray) (e : Ending) (w' : World) : Prop := e = .returned (.int .i64 0) ∧ ∃ used2, DkN w' db mb room used2 (delL L nm) F ∧ used2 ≤ used ∧ Fr (DkS db mb L) w w'
theorem open_fresh {a6 a3 : Nat} (h6 : w.cell? ⟨a6, 0, none⟩ = some (.pointer (some ⟨lb, 0, none⟩))) (h30 : w.cell? ⟨a3, 0, none⟩ = some (.string p)) (h31 : w.cell? ⟨a3, 1, none⟩ = some (.int .i64 lim)) (h32 : w.cell? ⟨a3, 2, none⟩ = some (.int .i64 ev))
    (hc : w.cell? ⟨lb, 3, none⟩ = some (.pointer (some ⟨db, 0, none⟩))) (h : DkN w db mb room used L F) (hp : p.size ≤ 20) :
    Calls Tryz.prog 41 #[.pointer (some ⟨a6, 0, none⟩), .pointer (some ⟨a3, 0, none⟩)] w (DropDo w db mb room used L F (freshS p)) := by
  have z6 : ∀ y : Lcl.InS (fun w' => Fr (fun _ => False) w w'), y.w.cell? ⟨a6, 0, none⟩ = some (.pointer (some ⟨lb, 0, none⟩)) := fun y => y.h.cel h6
  have z30 : ∀ y : Lcl.InS (fun w' => Fr (fun _ => False) w w'), y.w.cell? ⟨a3, 0, none⟩ = some (.string p) := fun y => y.h.cel h30
  have z31 : ∀ y : Lcl.InS (fun w' => Fr (fun _ => False) w w'), y.w.cell? ⟨a3, 1, none⟩ = some (.int .i64 lim) := fun y => y.h.cel h31
  have z32 : ∀ y : Lcl.InS (fun w' => Fr (fun _ => False) w w'), y.w.cell? ⟨a3, 2, none⟩ = some (.int .i64 ev) := fun y => y.h.cel h32
  have hfw := fresh_walk p lim ev w.drew hp
  unfold cfgV at hfw
  have HFW := Lib.hid hfw
  have H := Lib.hid h
  have HC := Lib.hid hc
  have hsz := freshS_size p
  clear hfw h hc h6 h30 h31 h32
  unfold DropDo
  go_enter Tryz.func41, Tryz.ntmps41
  go_wp2_with fail
  refine Lcl.wp_region_calm (by kernel_rfl) [(false, [0, 1])] #[0, 0, 2, 7, 15] [0, 1, 2] 3 #[true, true, false, false, false] (by kernel_rfl) (by kernel_rfl) (by kernel_rfl) (fun w' => Fr (fun _ => False) w w') (Fr.same w).drew (fun d c a v w h => by cases d <;> exact h) ?_
  simp only [Lcl.opsOf, List.map_cons, List.map_nil, List.getElem?_toArray, List.getElem?_cons_succ, List.getElem?_cons_zero, Option.getD_some]
  refine Lcl.wpCalm_f ?_
  repeat (go_big_quiet_step (rfl))
  refine wpQuiet_nil ?_
  refine Lcl.wpCalm_nil ?_
  clear z6 z30 z31 z32
  refine Lcl.wpG_one 2 rfl (by kernel_rfl) ?_
  go_wp2_with fail
  refine HFW.out.mono ?_
  rintro e w1 ⟨rfl, hf⟩
  have Q1 := Lib.hid ((Fr.same w).drew.tr hf)
  have HD := Lib.hid (ldrop_n (Q1.out.cel HC.out) (H.out.old Q1.out) (freshS p) (by omega))
  clear hf HFW
  go_wp2_with fail
  refine ⟨fun _ _ => Q1.out, ?_⟩
  refine Lcl.wpG_one 3 rfl (by kernel_rfl) ?_
  go_wp2_with fail
  refine HD.out.mono ?_
  rintro e w2 ⟨rfl, used2, h1, h2, h3⟩
  have R := Lib.hid (show DkN w2 db mb room used2 (delL L (freshS p)) F ∧ used2 ≤ used ∧ Fr (DkS db mb L) w w2 from ⟨h1, h2, (Q1.out.mono (S' := DkS db mb L) fun i h => h.elim).trans h3 fun i h => .inl h⟩)
  clear h1 h2 h3 HD
  go_wp2_with fail
  refine ⟨fun h => absurd h (by decide), ?_⟩
  refine Lcl.wpG_run [4] _ _ _ (by kernel_rfl) ?_
  simp only [List.map_cons, List.map_nil, List.getElem?_toArray, List.getElem?_cons_succ, List.getElem?_cons_zero, Option.getD_some]
  go_wp2_with fail
  go_ret
  exact ⟨rfl, used2, R.out⟩
theorem open_swap {a6 a3 : Nat} (h6 : w.cell? ⟨a6, 0, none⟩ = some (.pointer (some ⟨lb, 0, none⟩))) (h30 : w.cell? ⟨a3, 0, none⟩ = some (.string p)) (h31 : w.cell? ⟨a3, 1, none⟩ = some (.int .i64 lim)) (h32 : w.cell? ⟨a3, 2, none⟩ = some (.int .i64 ev))
    (hc : w.cell? ⟨lb, 3, none⟩ = some (.pointer (some ⟨db, 0, none⟩))) (h : DkN w db mb room used L F) (hp : p.size ≤ 20) :
    Calls Tryz.prog 44 #[.pointer (some ⟨a6, 0, none⟩), .pointer (some ⟨a3, 0, none⟩)] w (DropDo w db mb room used L F (swapS p)) := by
  have z6 : ∀ y : Lcl.InS (fun w' => Fr (fun _ => False) w w'), y.w.cell? ⟨a6, 0, none⟩ = some (.pointer (some ⟨lb, 0, none⟩)) := fun y => y.h.cel h6
  have z30 : ∀ y : Lcl.InS (fun w' => Fr (fun _ => False) w w'), y.w.cell? ⟨a3, 0, none⟩ = some (.string p) := fun y => y.h.cel h30
  have z31 : ∀ y : Lcl.InS (fun w' => Fr (fun _ => False) w w'), y.w.cell? ⟨a3, 1, none⟩ = some (.int .i64 lim) := fun y => y.h.cel h31
  have z32 : ∀ y : Lcl.InS (fun w' => Fr (fun _ => False) w w'), y.w.cell? ⟨a3, 2, none⟩ = some (.int .i64 ev) := fun y => y.h.cel h32
  have hfw := swap_walk p lim ev w.drew hp
  unfold cfgV at hfw
  have HFW := Lib.hid hfw
  have H := Lib.hid h
  have HC := Lib.hid hc
  have hsz := swapS_size p
  clear hfw h hc h6 h30 h31 h32
  unfold DropDo
  go_enter Tryz.func44, Tryz.ntmps44
  go_wp2_with fail
  refine Lcl.wp_region_calm (by kernel_rfl) [(false, [0, 1])] #[0, 0, 2, 7, 15] [0, 1, 2] 3 #[true, true, false, false, false] (by kernel_rfl) (by kernel_rfl) (by kernel_rfl) (fun w' => Fr (fun _ => False) w w') (Fr.same w).drew (fun d c a v w h => by cases d <;> exact h) ?_
  simp only [Lcl.opsOf, List.map_cons, List.map_nil, List.getElem?_toArray, List.getElem?_cons_succ, List.getElem?_cons_zero, Option.getD_some]
  refine Lcl.wpCalm_f ?_
  repeat (go_big_quiet_step (rfl))
  refine wpQuiet_nil ?_
  refine Lcl.wpCalm_nil ?_
  clear z6 z30 z31 z32
  refine Lcl.wpG_one 2 rfl (by kernel_rfl) ?_
  go_wp2_with fail
  refine HFW.out.mono ?_
  rintro e w1 ⟨rfl, hf⟩
  have Q1 := Lib.hid ((Fr.same w).drew.tr hf)
  have HD := Lib.hid (ldrop_n (Q1.out.cel HC.out) (H.out.old Q1.out) (swapS p) (by omega))
  clear hf HFW
  go_wp2_with fail
  refine ⟨fun _ _ => Q1.out, ?_⟩
  refine Lcl.wpG_one 3 rfl (by kernel_rfl) ?_
  go_wp2_with fail
  refine HD.out.mono ?_
  rintro e w2 ⟨rfl, used2, h1, h2, h3⟩
  have R := Lib.hid (show DkN w2 db mb room used2 (delL L (swapS p)) F ∧ used2 ≤ used ∧ Fr (DkS db mb L) w w2 from ⟨h1, h2, (Q1.out.mono (S' := DkS db mb L) fun i h => h.elim).trans h3 fun i h => .inl h⟩)
  clear h1 h2 h3 HD
  go_wp2_with fail
  refine ⟨fun h => absurd h (by decide), ?_⟩
  refine Lcl.wpG_run [4] _ _ _ (by kernel_rfl) ?_
  simp only [List.map_cons, List.map_nil, List.getElem?_toArray, List.getElem?_cons_succ, List.getElem?_cons_zero, Option.getD_some]
  go_wp2_with fail
  go_ret
  exact ⟨rfl, used2, R.out⟩
end
end Go.Proofs.YtdlnafhhkpklmaaGreatDoor
