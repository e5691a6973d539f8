/- A log's start file read; the walk. -/
import Derived.Test.YtdlnafhhkpklmaaGreatDoorY37
namespace Go.Proofs.YtdlnafhhkpklmaaGreatDoor
open Go.RowKit Go.Fm Go.BigFrame Go.Shelf Go.Maps
set_option linter.unusedVariables false
set_option linter.unusedSimpArgs false
set_option maxRecDepth 100000
section
variable {B : Nat} {w w' : World} {lb db mb : Nat} {p : ByteArray} {lim ev : Nat} {beg : Int} {L : List Row} {S : Nat → Prop} {room used fuse : Int} {F : ByteArray → ByteArray × Nat} {sv : Value}
theorem startS_size (p : ByteArray) : (startS p).size = p.size + 6 := by unfold startS; rw [ByteArray.size_append]; rfl
theorem freshS_size (p : ByteArray) : (freshS p).size = p.size + 4 := by unfold freshS; rw [ByteArray.size_append]; rfl
theorem swapS_size (p : ByteArray) : (swapS p).size = p.size + 5 := by unfold swapS; rw [ByteArray.size_append]; rfl
theorem rdstart_none (hb : w.heap[lb]? = some (lgObj p lim ev db beg sv)) (hd : Dk w db mb room used fuse L F) (hfu : fuse ≠ 0) (hp : p.size ≤ 20) (hg : getL L (startS p) = none) :
  Calls Tryz.prog 40 #[.pointer (some ⟨lb, 0, none⟩)] w fun e w' => e = .returned (.int .i64 0) ∧ Fr (fun _ => False) w w' := by
 have z0 : ∀ y : Lcl.InS (fun w' => Fr (fun _ => False) w w'), y.w.cell? ⟨lb, 0, none⟩ = some (.string p) := fun y => y.h.cel ((cell_of hb 0).trans rfl)
 have z1 : ∀ y : Lcl.InS (fun w' => Fr (fun _ => False) w w'), y.w.cell? ⟨lb, 1, none⟩ = some (.int .i64 lim) := fun y => y.h.cel ((cell_of hb 1).trans rfl)
 have z2 : ∀ y : Lcl.InS (fun w' => Fr (fun _ => False) w w'), y.w.cell? ⟨lb, 2, none⟩ = some (.int .i64 ev) := fun y => y.h.cel ((cell_of hb 2).trans rfl)
 have z3 : ∀ y : Lcl.InS (fun w' => Fr (fun _ => False) w w'), y.w.cell? ⟨lb, 3, none⟩ = some (.pointer (some ⟨db, 0, none⟩)) := fun y => y.h.cel ((cell_of hb 3).trans rfl)
 have hst := start_walk p lim ev w.drew hp
 unfold cfgV at hst
 have HST := Lib.hid hst
 have HD := Lib.hid hd
 have hml : (startS p).size ≤ maxLen := by rw [startS_size]; unfold maxLen; omega
 have HML := Lib.hid hml
 have HG := Lib.hid hg
 clear hst hd hml hg hb
 go_enter Tryz.func40, Tryz.ntmps40
 go_wp2_with fail
 refine Lcl.wp_region_calm (by kernel_rfl) [(true, [0, 1, 2, 4, 5, 6]), (false, [3, 7])] #[0, 1, 3, 7, 0, 16, 48, 112, 240, 511, 1023, 2047, 2047, 4095, 16383] [0, 1, 2, 3, 4, 5, 6, 7, 8] 7 #[true, true, true, true, true, true, true, true, false, false, false, false, false, false, false] (by kernel_rfl) (by kernel_rfl) (by kernel_rfl) (fun w' => Fr (fun _ => False) w w') (Fr.same w).drew (fun d c a v w h => by cases d <;> exact h) ?_
 simp only [Lcl.opsOf, List.map_cons, List.map_nil, List.getElem?_toArray, List.getElem?_cons_succ, List.getElem?_cons_zero, Option.getD_some]
 refine Lcl.wpCalm_t ?_
 repeat (go_big_quiet_step (rfl))
 refine wpQuiet_nil ?_
 refine Lcl.wpCalm_f ?_
 repeat (go_big_quiet_step (rfl))
 refine wpQuiet_nil ?_
 refine Lcl.wpCalm_nil ?_
 clear z0 z1 z2 z3
 refine Lcl.wpG_one 8 rfl (by kernel_rfl) ?_
 go_wp2_with fail
 refine HST.out.mono ?_
 rintro e w1 ⟨rfl, hf⟩
 have F1 := Lib.hid ((Fr.same w).drew.tr hf)
 clear hf HST
 go_wp2_with fail
 refine ⟨fun _ _ => F1.out, ?_⟩
 refine Lcl.wpG_one 9 rfl (by kernel_rfl) ?_
 go_wp2_with fail
 refine (dread_none (HD.out.old F1.out) hfu (startS p) HML.out HG.out).mono ?_
 rintro e w2 ⟨rfl, rfl⟩
 go_wp2_with fail
 refine ⟨fun h => absurd h (by decide), ?_⟩
 refine Lcl.wpG_one 10 rfl (by kernel_rfl) ?_
 go_wp2_with fail
 refine ⟨fun h => absurd h (by decide), ?_⟩
 refine Lcl.wpG_calm (m := #[0, 1, 3, 7, 0, 16, 48, 112, 240, 511, 1023, 2047, 2047, 4095, 16383]) (needs := [0, 1, 2, 3, 4, 5, 6, 7, 8]) (fuel := 0) (by kernel_rfl) ?hqA (F1.out) [(true, [11, 12, 13, 14])] _ _ ?k1A ?k2A ?k3A ?k4A
 case hqA => exact fun d c a v w h => by cases d <;> exact h
 case k1A => kernel_rfl
 case k2A => rfl
 case k3A => kernel_rfl
 simp only [Lcl.opsOf, List.map_cons, List.map_nil, List.getElem?_toArray, List.getElem?_cons_succ, List.getElem?_cons_zero, Option.getD_some]
 refine Lcl.wpCalm_t ?_
 repeat (go_big_quiet_step (rfl))
 refine wpQuiet_nil ?_
 refine Lcl.wpCalm_nil ?_
 refine Lcl.wpG_run [] _ _ _ (by kernel_rfl) ?_
 simp only [List.map_cons, List.map_nil, List.getElem?_toArray, List.getElem?_cons_succ, List.getElem?_cons_zero, Option.getD_some]
 go_wp2_with fail
 go_ret
 exact ⟨rfl, F1.out⟩
theorem rdstart_some (hb : w.heap[lb]? = some (lgObj p lim ev db beg sv)) (hd : Dk w db mb room used fuse L F) (hfu : fuse ≠ 0) (hp : p.size ≤ 20) (hg : (getL L (startS p)).isSome = true) (n : Nat) (hn : n ≤ 1099511627776) (hF : (F (startS p)).1 = fix8 n) :
  Calls Tryz.prog 40 #[.pointer (some ⟨lb, 0, none⟩)] w fun e w' => e = .returned (.int .i64 0) ∧ w'.heap[lb]? = some (lgObj p lim ev db n sv) ∧ Fr (fun i => i = lb) w w' := by
 have z0 : ∀ y : Lcl.InS (fun w' => Fr (fun _ => False) w w'), y.w.cell? ⟨lb, 0, none⟩ = some (.string p) := fun y => y.h.cel ((cell_of hb 0).trans rfl)
 have z1 : ∀ y : Lcl.InS (fun w' => Fr (fun _ => False) w w'), y.w.cell? ⟨lb, 1, none⟩ = some (.int .i64 lim) := fun y => y.h.cel ((cell_of hb 1).trans rfl)
 have z2 : ∀ y : Lcl.InS (fun w' => Fr (fun _ => False) w w'), y.w.cell? ⟨lb, 2, none⟩ = some (.int .i64 ev) := fun y => y.h.cel ((cell_of hb 2).trans rfl)
 have z3 : ∀ y : Lcl.InS (fun w' => Fr (fun _ => False) w w'), y.w.cell? ⟨lb, 3, none⟩ = some (.pointer (some ⟨db, 0, none⟩)) := fun y => y.h.cel ((cell_of hb 3).trans rfl)
 have hst := start_walk p lim ev w.drew hp
 unfold cfgV at hst
 obtain ⟨fb, hg⟩ := Option.isSome_iff_exists.1 hg
 have hrd : ∀ w1, Fr (fun _ => False) w w1 → Calls Tryz.prog 73 #[.pointer (some ⟨db, 0, none⟩), .string (startS p)] w1 fun e w' => e = .returned (.tuple #[.string (fix8 n), .int .i64 0]) ∧ w' = w1 := fun w1 hf => by
  have h1 := dread_some (hd.old hf) hfu (startS p) (by rw [startS_size]; unfold maxLen; omega) hg
  rw [hF] at h1
  exact h1
 have hr8 := fun w1 => read8_walk (fix8 n) w1 rfl (by rw [fix8_be n (by omega)]; omega)
 rw [fix8_be n (by omega)] at hr8
 have HST := Lib.hid hst
 have HRD := Lib.hid hrd
 have HR8 := Lib.hid hr8
 have HB := Lib.hid hb
 have hfs : (fix8 n).size = 8 := rfl
 clear hst hd hg hb hrd hr8
 go_enter Tryz.func40, Tryz.ntmps40
 go_wp2_with fail
 refine Lcl.wp_region_calm (by kernel_rfl) [(true, [0, 1, 2, 4, 5, 6]), (false, [3, 7])] #[0, 1, 3, 7, 0, 16, 48, 112, 240, 511, 1023, 2047, 2047, 4095, 16383] [0, 1, 2, 3, 4, 5, 6, 7, 8] 7 #[true, true, true, true, true, true, true, true, false, false, false, false, false, false, false] (by kernel_rfl) (by kernel_rfl) (by kernel_rfl) (fun w' => Fr (fun _ => False) w w') (Fr.same w).drew (fun d c a v w h => by cases d <;> exact h) ?_
 simp only [Lcl.opsOf, List.map_cons, List.map_nil, List.getElem?_toArray, List.getElem?_cons_succ, List.getElem?_cons_zero, Option.getD_some]
 refine Lcl.wpCalm_t ?_
 repeat (go_big_quiet_step (rfl))
 refine wpQuiet_nil ?_
 refine Lcl.wpCalm_f ?_
 repeat (go_big_quiet_step (rfl))
 refine wpQuiet_nil ?_
 refine Lcl.wpCalm_nil ?_
 clear z0 z1 z2 z3
 refine Lcl.wpG_one 8 rfl (by kernel_rfl) ?_
 go_wp2_with fail
 refine HST.out.mono ?_
 rintro e w1 ⟨rfl, hf⟩
 have F1 := Lib.hid ((Fr.same w).drew.tr hf)
 clear hf HST
 go_wp2_with fail
 refine ⟨fun _ _ => F1.out, ?_⟩
 refine Lcl.wpG_one 9 rfl (by kernel_rfl) ?_
 go_wp2_with fail
 refine (HRD.out _ F1.out).mono ?_
 rintro e w2 ⟨rfl, rfl⟩
 go_wp2_with fail
 refine ⟨fun h => absurd h (by decide), ?_⟩
 refine Lcl.wpG_one 10 rfl (by kernel_rfl) ?_
 go_wp2_with fail
 refine ⟨fun h => absurd h (by decide), ?_⟩
 refine Lcl.wpG_calm (m := #[0, 1, 3, 7, 0, 16, 48, 112, 240, 511, 1023, 2047, 2047, 4095, 16383]) (needs := [0, 1, 2, 3, 4, 5, 6, 7, 8]) (fuel := 0) (by kernel_rfl) ?hqA (F1.out) [(true, [11, 12, 13, 14])] _ _ ?k1A ?k2A ?k3A ?k4A
 case hqA => exact fun d c a v w h => by cases d <;> exact h
 case k1A => kernel_rfl
 case k2A => rfl
 case k3A => kernel_rfl
 simp only [Lcl.opsOf, List.map_cons, List.map_nil, List.getElem?_toArray, List.getElem?_cons_succ, List.getElem?_cons_zero, Option.getD_some]
 refine Lcl.wpCalm_t ?_
 repeat (go_big_quiet_step (rfl))
 refine wpQuiet_nil ?_
 refine Lcl.wpCalm_nil ?_
 refine Lcl.wpG_run [] _ _ _ (by kernel_rfl) ?_
 simp only [List.map_cons, List.map_nil, List.getElem?_toArray, List.getElem?_cons_succ, List.getElem?_cons_zero, Option.getD_some]
 go_wp2_with fail
 refine (HR8.out _).mono ?_
 rintro e w3 ⟨rfl, hf⟩
 have F3 := Lib.hid (F1.out.tr hf)
 have hb3 := ((F3.out).block _ (lt_of_heap HB.out) fun h => h).trans HB.out
 have HB3 := Lib.hid hb3
 have k2 : w3.cell? ⟨lb, 4, none⟩ = some (.int .i64 beg) := (cell_of hb3 4).trans rfl
 have f2 := fz_of hb3 4
 have hbg : ¬ (1099511627776 : Int) < n := by omega
 clear hf hb3
 go_wp2_with fail
 go_ret
 refine ⟨rfl, ?_, Fr.setCell (S := fun i => i = lb) (p := ⟨lb, 4, none⟩) (F3.out.mono fun i h => h.elim) (.inl rfl) _⟩
 rw [heap_setCell_self HB3.out]
 rfl
end
end Go.Proofs.YtdlnafhhkpklmaaGreatDoor
/- A log's first segments let go: laws, and the walk of trim. -/
namespace Go.Proofs.YtdlnafhhkpklmaaGreatDoor
open Go.RowKit Go.Fm Go.BigFrame Go.Shelf Go.Maps
set_option linter.unusedVariables false
set_option linter.unusedSimpArgs false
set_option maxRecDepth 100000
section
variable {B : Nat} {w w' w2 w3 : World} {lb db mb : Nat} {p : ByteArray} {lim ev : Nat} {beg : Int} {es es' : List PE} {own : Bool} {L L' : List Row} {S : Nat → Prop} {room used fuse : Int} {F : ByteArray → ByteArray × Nat} {G : Nat → Prop} {n : Nat}
/-- How many segments stand ahead of a place. -/
def trimN (beg : Int) : List Seg → Nat
 | a :: b :: r => if a.end' ≤ beg then trimN beg (b :: r) + 1 else 0
 | _ => 0
theorem LgV.tail {x : PE} {a : Addr} {cap : Nat} (h : LgV B w lb db mb p lim ev beg (x :: es) own L (.slice (some a) (es.length + 1) cap) G) (hne : es ≠ []) (hf : Fr (fun i => i = lb ∨ DkS db mb L i) w w3)
  (hb : w3.heap[lb]? = some (lgObj p lim ev db beg (.slice (some (a.add 1)) es.length (cap - 1)))) (hL : ∀ i, DkS db mb L' i → DkS db mb L i) : LgV B w3 lb db mb p lim ev beg es false L' (.slice (some (a.add 1)) es.length (cap - 1)) G := by
 have hm : ∀ e ∈ es, e ∈ x :: es := fun e he => List.mem_cons_of_mem _ he
 have hft : ∀ i, lgFoot lb G es i → lgFoot lb G (x :: es) i := fun i hi => hi.imp id (Or.imp id fun ⟨e, he, h⟩ => ⟨e, hm e he, h⟩)
 have hk : ∀ i, (G i ∨ ∃ e ∈ x :: es, e.S i) → ¬ (i = lb ∨ DkS db mb L i) := fun i hi h1 => by
  rcases h1 with h1 | h1
  ·exact h.nb i hi h1
  ·exact h.ap i (.inr hi) h1
 obtain ⟨oa, cap', e1, e2, e3, e4⟩ := h.rd
 injection e1 with e5 e6 e7
 subst e5 e7
 refine ⟨hb, ⟨_, _, rfl, by simp at e2; omega, by omega, fun k e he => ?_⟩, fun h => (by cases h), fun e he => (h.sg e (hm e he)).fr hf fun i hi => hk i (.inr ⟨e, hm e he, hi⟩), fun i hi => ?_, fun i hi hd => h.ap i (hft i hi) (hL i hd), fun i hi => h.nb i (hi.imp id fun ⟨e, he, h⟩ => ⟨e, hm e he, h⟩),
  fun i hi e he => h.ng i hi e (hm e he), (List.pairwise_cons.1 h.nn).2, h.p1, h.p2, h.l1, h.l2, h.e1, h.e2, h.b0, h.b1, by have := h.n; simp at this; omega, fun e he => h.evs e (hm e he)⟩
 ·obtain ⟨a2, h1, h2, h3⟩ := e4 (k + 1) e (by simpa using he)
  injection h1 with h1
  subst h1
  have hadd : (a.add 1).add k = a.add (k + 1) := by rw [add_add2]; congr 1; omega
  refine ⟨_, rfl, ?_, by rw [add_block]; exact h3⟩
  rw [hadd]
  exact hf.cell h2 (by rw [add_block]; exact hk _ (.inl h3))
 ·rcases hi with rfl | hi | ⟨e, he, hi⟩
  ·exact ⟨(h.lt _ (.inl rfl)).1, lt_of_heap hb⟩
  ·have := h.lt i (.inr (.inl hi)); exact ⟨this.1, Nat.lt_of_lt_of_le this.2 hf.size⟩
  ·have := h.lt i (.inr (.inr ⟨e, hm e he, hi⟩)); exact ⟨this.1, Nat.lt_of_lt_of_le this.2 hf.size⟩
theorem usd_del {F : ByteArray → ByteArray × Nat} {nm : ByteArray} : ∀ {L : List Row}, (L.map (·.1)).Nodup → (∃ r ∈ L, r.1 = nm) → usd (delL L nm) F + (F nm).1.size = usd L F
 | [], _, h => by obtain ⟨r, hr, -⟩ := h; cases hr
 | x :: l, hn, h => by
  rw [List.map_cons, List.nodup_cons] at hn
  by_cases e : x.1 = nm
  ·have hl : delL (x :: l) nm = l := by
    unfold delL
    rw [List.filter_cons_of_neg (by simpa using e)]
    refine List.filter_eq_self.2 fun r hr => ?_
    simp only [decide_eq_true_eq, ne_eq]
    intro e2
    exact hn.1 (List.mem_map.2 ⟨r, hr, by rw [e2, e]⟩)
   rw [hl]
   unfold usd
   rw [List.map_cons, List.sum_cons, e]
   omega
  ·have ih := usd_del (F := F) (nm := nm) (L := l) hn.2 (by
    obtain ⟨r, hr, e2⟩ := h
    rcases List.mem_cons.1 hr with rfl | hr
    ·exact absurd e2 e
    ·exact ⟨r, hr, e2⟩)
   have hl : delL (x :: l) nm = x :: delL l nm := by
    unfold delL
    rw [List.filter_cons_of_pos (by simpa using e)]
   rw [hl]
   unfold usd at ih ⊢
   rw [List.map_cons, List.map_cons, List.sum_cons, List.sum_cons]
   omega
theorem LgF.has {ss : List Seg} (h : LgF p beg ss L F) {s : Seg} (hs : s ∈ ss) (hl : s.l ≠ []) : (getL L (nmS p s.base)).isSome = true := by
 cases e : getL L (nmS p s.base) with
 | some fb => rfl
 | none =>
  have h1 := h.file s hs
  rw [curF_none e] at h1
  exact absurd (sum_nil h1.symm) hl
theorem curF_del {nm x : ByteArray} (h : x ≠ nm) : curF (delL L nm) F x = curF L F x := by
 refine curF_congr ?_ rfl
 rw [getL_del, if_neg h]
theorem LgF.tail {x : Seg} {ss : List Seg} (h : LgF p beg (x :: ss) L F) (hne : ss ≠ []) : LgF p beg ss (delL L (nmS p x.base)) F := by
 have hr := List.pairwise_cons.1 h.rise
 have hb := h.bb x List.mem_cons_self
 have hm : ∀ s ∈ ss, nmS p s.base ≠ nmS p x.base := fun s hs e => by
  have h1 := nmS_inj (h.bb s (List.mem_cons_of_mem _ hs)) hb e
  have := (hr.1 s hs).1
  omega
 have hdl : (x :: ss).dropLast = x :: ss.dropLast := by
  cases ss with
  | nil => exact absurd rfl hne
  | cons a l => rfl
 refine ⟨fun s hs => ?_, fun s hs => ?_, fun nm h1 h2 => ?_, ?_, hr.2, fun s hs => h.bb s (List.mem_cons_of_mem _ hs), fun s hs => h.full s (by rw [hdl]; exact List.mem_cons_of_mem _ hs)⟩
 ·rw [curF_del (hm s hs)]; exact h.file s (List.mem_cons_of_mem _ hs)
 ·rw [curF_del (hm s ((List.dropLast_sublist _).subset hs))]; exact h.safe s (by rw [hdl]; exact List.mem_cons_of_mem _ hs)
 ·rw [getL_del] at h1
  split at h1
  ·cases h1
  ·rename_i hn
   obtain ⟨s, hs, e⟩ := h.own nm h1 h2
   rcases List.mem_cons.1 hs with rfl | hs
   ·exact absurd e hn
   ·exact ⟨s, hs, e⟩
 ·rw [getL_del, if_neg (start_ne p x.base)]
  exact h.strt
def LastSafeE (p : ByteArray) (es : List PE) (L : List Row) (F : ByteArray → ByteArray × Nat) : Prop := LastSafe p (segsOf es) L F
theorem others_del {b : Nat} : Others p L F (delL L (nmS p b)) F := fun x hx => ⟨by rw [getL_del, if_neg (ne_mine hx)], rfl⟩
/-- The first segment is dropped. -/
theorem LogD.drop1 {x : PE} {a : Addr} {cap : Nat} (h : LogD B w lb db mb p lim ev beg (x :: es) own L S room used fuse F n) (hne : es ≠ []) (hV : LgV B w lb db mb p lim ev beg (x :: es) own L (.slice (some a) (es.length + 1) cap) G) (hSS : ∀ i, S i ↔ lgFoot lb G (x :: es) i)
  (hd : Dk w2 db mb room (used - (F (nmS p x.s.base)).1.size) (burn fuse) (delL L (nmS p x.s.base)) F) (hf : Fr (DkS db mb L) w w2) (hf3 : Fr (fun i => i = lb) w2 w3) (hb : w3.heap[lb]? = some (lgObj p lim ev db beg (.slice (some (a.add 1)) es.length (cap - 1)))) :
  ∃ S3, LogD B w3 lb db mb p lim ev beg es false (delL L (nmS p x.s.base)) S3 room (used - (F (nmS p x.s.base)).1.size) (burn fuse) F n ∧ (∀ i, S3 i → S i) ∧ Fr (fun i => S i ∨ DkS db mb L i) w w3 := by
 have hfl := h.fl
 have hsg : segsOf (x :: es) = x.s :: segsOf es := rfl
 have hsn : segsOf es ≠ [] := by unfold segsOf; simpa using hne
 rw [hsg] at hfl
 have hhas := hfl.has List.mem_cons_self (hfl.full x.s (by cases hh : segsOf es with | nil => exact absurd hh hsn | cons a l => simp))
 obtain ⟨fb, hg⟩ := Option.isSome_iff_exists.1 hhas
 have hus := usd_del (F := F) (nm := nmS p x.s.base) h.dk.m.1.nodup ⟨_, getL_some hg, rfl⟩
 have hus0 := h.us
 have hF3 : Fr (fun i => i = lb ∨ DkS db mb L i) w w3 := (hf.mono (S' := fun i => i = lb ∨ DkS db mb L i) fun i hi => .inl (.inr hi)).trans hf3 fun i hi => .inl (.inl hi)
 have hV3 := hV.tail hne hF3 hb (L' := delL L (nmS p x.s.base)) fun i hi => hi.del
 have hlb : ¬ DkS db mb L lb := hV.ap lb (.inl rfl)
 have hrm := h.rm
 have hur := h.ur
 have hu0 := h.ok.u0
 refine ⟨_, ⟨⟨_, _, hV3, fun i => Iff.rfl⟩, hd.fr hf3 fun i hi e => hlb (e ▸ hi.del), ⟨by omega, by omega, burn_wf h.ok.fw, fun r hr => h.ok.fs r (del_mem hr).1⟩, by omega, by omega, h.rm, hfl.tail hsn, fun i hi => h.dl i hi.del, h.b1, Nat.le_trans (List.length_filter_le _ _) h.nL, by have := h.nE; simp at this; omega, ?_, h.n1, ?_⟩, fun i hi => ?_, hF3.mono fun i hi => .inl (hi.imp (fun e => (hSS i).2 (.inl e)) id)⟩
 ·have h1 := h.nB
  rw [hsg] at h1
  unfold catL at h1 ⊢
  rw [List.flatMap_cons, List.length_append] at h1
  omega
 ·have h1 := h.be
  unfold lgEnd at h1 ⊢
  rw [List.getLast?_cons] at h1
  cases e : es.getLast? with
  | none => rw [List.getLast?_eq_none_iff] at e; exact absurd e hne
  | some y => rw [e] at h1; exact h1
 ·exact (hSS i).2 (hi.imp id (Or.imp id fun ⟨e, he, h⟩ => ⟨e, List.mem_cons_of_mem _ he, h⟩))
def TrimPost (B : Nat) (w : World) (lb db mb : Nat) (p : ByteArray) (lim ev : Nat) (beg : Int) (es : List PE) (own : Bool) (L : List Row) (S : Nat → Prop) (room used fuse : Int) (F : ByteArray → ByteArray × Nat) (n : Nat) (e : Ending) (w' : World) : Prop :=
 ∃ (c : Int) (j : Nat) (own' : Bool) (L' : List Row) (S' : Nat → Prop) (used' fuse' : Int), e = .returned (.int .i64 c) ∧ LogD B w' lb db mb p lim ev beg (es.drop j) own' L' S' room used' fuse' F n ∧ Others p L F L' F ∧ (LastSafeE p es L F → LastSafeE p (es.drop j) L' F) ∧ (∀ i, S' i → S i) ∧ (∀ i, DkS db mb L' i → DkS db mb L i) ∧ Fr (fun i => S i ∨ DkS db mb L i) w w' ∧
  (c = 0 ∨ c = 7) ∧ (fuse = -1 → c = 0 ∧ fuse' = -1) ∧ (c = 0 → j = trimN beg (segsOf es)) ∧ (j = 0 → own' = own ∧ L' = L) ∧ used' ≤ used
def lenOf (lb : Nat) (w : World) : Nat := match w.cell? ⟨lb, 5, none⟩ with
 | some (.slice _ n _) => n
 | _ => 0
structure TrimMid (B : Nat) (w : World) (lb db mb : Nat) (p : ByteArray) (lim ev : Nat) (beg : Int) (es : List PE) (own : Bool) (L : List Row) (S : Nat → Prop) (room used fuse : Int) (F : ByteArray → ByteArray × Nat) (n : Nat) (j : Nat) (own' : Bool) (L' : List Row) (S' : Nat → Prop) (used' fuse' : Int) (wr : World) : Prop where
 d : LogD B wr lb db mb p lim ev beg (es.drop j) own' L' S' room used' fuse' F n
 ot : Others p L F L' F
 ls : LastSafeE p es L F → LastSafeE p (es.drop j) L' F
 fs : ∀ i, S' i → S i
 fd : ∀ i, DkS db mb L' i → DkS db mb L i
 fr : Fr (fun i => S i ∨ DkS db mb L i) w wr
 fu : fuse = -1 → fuse' = -1
 tn : j + trimN beg (segsOf (es.drop j)) = trimN beg (segsOf es)
 ow : j = 0 → own' = own ∧ L' = L
 us : used' ≤ used
end
section
variable {B : Nat} {w w' w1 w2 w3 wr : World} {lb db mb : Nat} {p : ByteArray} {lim ev : Nat} {beg : Int} {es es' : List PE} {own own' : Bool} {L L' : List Row} {S S' : Nat → Prop} {room used fuse used' fuse' : Int} {F : ByteArray → ByteArray × Nat} {G : Nat → Prop} {n j : Nat}
theorem add_zero' (a : Addr) : a.add 0 = a := by cases a; unfold Addr.add; split <;> simp_all
theorem lenOf_eq {oa : Option Addr} {m cap : Nat} (h : w.cell? ⟨lb, 5, none⟩ = some (.slice oa m cap)) : lenOf lb w = m := by unfold lenOf; rw [h]
theorem TrimMid.done (M : TrimMid B w lb db mb p lim ev beg es own L S room used fuse F n j own' L' S' used' fuse' wr) (h0 : trimN beg (segsOf (es.drop j)) = 0) (hf : Fr (fun _ => False) wr w1) : TrimPost B w lb db mb p lim ev beg es own L S room used fuse F n (.returned (.int .i64 0)) w1 :=
 ⟨0, j, own', L', S', used', fuse', rfl, M.d.old hf, M.ot, M.ls, M.fs, M.fd, M.fr.trans hf fun i h => h.elim, .inl rfl, fun h => ⟨rfl, M.fu h⟩, fun _ => by have := M.tn; omega, M.ow, M.us⟩
theorem TrimMid.down (M : TrimMid B w lb db mb p lim ev beg es own L S room used fuse F n j own' L' S' used' fuse' wr) (h0 : fuse' = 0) (hf : Fr (fun _ => False) wr w1) : TrimPost B w lb db mb p lim ev beg es own L S room used fuse F n (.returned (.int .i64 7)) w1 :=
 ⟨7, j, own', L', S', used', fuse', rfl, M.d.old hf, M.ot, M.ls, M.fs, M.fd, M.fr.trans hf fun i h => h.elim, .inr rfl, fun h => absurd (M.fu h) (by omega), fun h => absurd h (by decide), M.ow, M.us⟩
theorem TrimMid.step {x y : PE} {R : List PE} {a : Addr} {cap : Nat} (M : TrimMid B w lb db mb p lim ev beg es own L S room used fuse F n j own' L' S' used' fuse' wr) (hR : es.drop j = x :: y :: R) (hend : x.s.end' ≤ beg) (hV : LgV B wr lb db mb p lim ev beg (x :: y :: R) own' L' (.slice (some a) (R.length + 1 + 1) cap) G) (hSS : ∀ i, S' i ↔ lgFoot lb G (x :: y :: R) i)
  (hd : Dk w2 db mb room (used' - (F (nmS p x.s.base)).1.size) (burn fuse') (delL L' (nmS p x.s.base)) F) (hf : Fr (DkS db mb L') wr w2) (hf3 : Fr (fun i => i = lb) w2 w3) (hb : w3.heap[lb]? = some (lgObj p lim ev db beg (.slice (some (a.add 1)) (R.length + 1) (cap - 1)))) :
  ∃ L2 S2 used2, TrimMid B w lb db mb p lim ev beg es own L S room used fuse F n (j + 1) false L2 S2 used2 (burn fuse') w3 := by
 have hd1 := M.d
 rw [hR] at hd1
 obtain ⟨S3, h1, h2, h3⟩ := hd1.drop1 (es := y :: R) (by simp) hV hSS hd hf hf3 hb
 have hj : es.drop (j + 1) = y :: R := by
  have := congrArg (List.drop 1) hR
  simpa [List.drop_drop, Nat.add_comm] using this
 refine ⟨_, S3, _, ⟨by rw [hj]; exact h1, M.ot.trans others_del, fun hl => ?_, fun i hi => M.fs i (h2 i hi), fun i hi => M.fd i hi.del, M.fr.trans h3 fun i hi => .inl (hi.imp (M.fs i) (M.fd i)), fun h => by rw [M.fu h]; rfl, ?_, fun h => absurd h (by omega), ?_⟩⟩
 ·have h4 := M.ls hl
  rw [hR] at h4
  rw [hj]
  intro s hs
  have h5 : (segsOf (x :: y :: R)).getLast? = some s := by
   show (x.s :: y.s :: R.map (·.s)).getLast? = _
   rw [List.getLast?_cons_cons]
   exact hs
  rw [curF_del, h4 s h5]
  have hfl := hd1.fl
  have h6 := List.pairwise_cons.1 (show List.Pairwise _ (x.s :: segsOf (y :: R)) from hfl.rise)
  have h7 : s ∈ segsOf (y :: R) := List.mem_of_getLast? hs
  intro e
  have h8 := nmS_inj (hfl.bb s (List.mem_cons_of_mem _ h7)) (hfl.bb x.s List.mem_cons_self) e
  have := (h6.1 s h7).1
  omega
 ·have h4 := M.tn
  rw [hR] at h4
  rw [hj]
  have h5 : trimN beg (segsOf (x :: y :: R)) = trimN beg (segsOf (y :: R)) + 1 := by
   show trimN beg (x.s :: y.s :: R.map (·.s)) = _
   rw [trimN, if_pos hend]
   rfl
  omega
 ·have := M.us
  omega
set_option maxHeartbeats 8000000 in
theorem trim_walk (D0 : LogD B w lb db mb p lim ev beg es own L S room used fuse F n) : Calls Tryz.prog 47 #[.pointer (some ⟨lb, 0, none⟩)] w (TrimPost B w lb db mb p lim ev beg es own L S room used fuse F n) := by
 have M0 := Lib.hid (show TrimMid B w lb db mb p lim ev beg es own L S room used fuse F n 0 own L S used fuse w from
  ⟨D0, Others.refl _ _ _, fun h => h, fun _ h => h, fun _ h => h, Fr.refl _ _, fun h => h, by simp, fun _ => ⟨rfl, rfl⟩, Int.le_refl _⟩)
 clear D0
 go_enter Tryz.func47, Tryz.ntmps47
 go_wp2_with fail
 go_loopw [] (fun wr => ∃ j own' L' S' used' fuse', TrimMid B w lb db mb p lim ev beg es own L S room used fuse F n j own' L' S' used' fuse' wr) (fun wr => lenOf lb wr)
 case atStart => exact ⟨0, own, L, S, used, fuse, M0.out⟩
 case round =>
  obtain ⟨j, own', L', S', used', fuse', hM⟩ := hrel
  have M := Lib.hid hM
  obtain ⟨sv, G, hV, hSS⟩ := hM.d.lg
  have HSS := Lib.hid hSS
  have HV := Lib.hid hV
  obtain ⟨oa, cap, hsv, hcl, hcm, hrd⟩ := hV.rd
  have HD := Lib.hid hM.d
  clear M0 hM hSS
  generalize hR : es.drop j = R at *
  have ER := Lib.hid hR
  clear hR
  rcases R with _ | ⟨x, _ | ⟨y, R⟩⟩
  case nil =>
   subst hsv
   have z5 : ∀ y : Lcl.InS (fun w' => Fr (fun _ => False) wr w'), y.w.cell? ⟨lb, 5, none⟩ = some (.slice oa 0 cap) := fun y => y.h.cel ((cell_of hV.b 5).trans rfl)
   clear hV hrd
   go_wp2_with fail
   refine Lcl.wp_region_calm (by kernel_rfl) [(true, [0, 1, 2]), (false, [3]), (true, [4, 5, 6, 7, 8, 9, 14, 15, 16]), (false, [10, 17]), (true, [11]), (false, [12])] #[0, 1, 3, 7, 15, 31, 63, 127, 255, 511, 1023, 2047, 4095, 8191, 127, 16511, 49279, 114815, 262143, 524287] [0, 1, 2, 3, 4, 5, 6, 7, 8, 9, 10, 11, 12, 13, 14, 15, 16, 17] 3 #[true, true, true, true, true, true, true, true, true, true, true, true, true, false, true, true, true, true, false, false] (by kernel_rfl) (by kernel_rfl) (by kernel_rfl) (fun w' => Fr (fun _ => False) wr w') (Fr.same wr).drew (fun d c a v w h => by cases d <;> exact h) ?_
   simp only [Lcl.opsOf, List.map_cons, List.map_nil, List.getElem?_toArray, List.getElem?_cons_succ, List.getElem?_cons_zero, Option.getD_some]
   refine Lcl.wpCalm_t ?_
   repeat (go_big_quiet_step (rfl))
   refine wpQuiet_nil ?_
   refine Lcl.wpCalm_f ?_
   repeat (go_big_quiet_step (rfl))
   refine wpQuiet_nil ?_
   refine Lcl.wpCalm_t ?_
   repeat (go_big_quiet_step (rfl))
   refine wpQuiet_nil ?_
   refine Lcl.wpCalm_f ?_
   repeat (go_big_quiet_step (rfl))
   refine wpQuiet_nil ?_
   refine Lcl.wpCalm_t ?_
   repeat (go_big_quiet_step (rfl))
   refine wpQuiet_nil ?_
   refine Lcl.wpCalm_f ?_
   repeat (go_big_quiet_step (rfl))
   refine wpQuiet_nil ?_
   refine Lcl.wpCalm_nil ?_
   clear z5
   refine Lcl.wpG_one 13 rfl (by kernel_rfl) ?_
   go_wp2_with fail
   refine ⟨fun _ h => h, ?_⟩
   refine Lcl.wpG_run [18, 19] _ _ _ (by kernel_rfl) ?_
   simp only [List.map_cons, List.map_nil, List.getElem?_toArray, List.getElem?_cons_succ, List.getElem?_cons_zero, Option.getD_some]
   go_wp2_with fail
   go_ret
   exact M.out.done (by rw [ER.out]; rfl) (Fr.same _).drew
  case cons.nil =>
   subst hsv
   have z5 : ∀ y : Lcl.InS (fun w' => Fr (fun _ => False) wr w'), y.w.cell? ⟨lb, 5, none⟩ = some (.slice oa 1 cap) := fun y => y.h.cel ((cell_of hV.b 5).trans rfl)
   clear hV hrd
   go_wp2_with fail
   refine Lcl.wp_region_calm (by kernel_rfl) [(true, [0, 1, 2]), (false, [3]), (true, [4, 5, 6, 7, 8, 9, 14, 15, 16]), (false, [10, 17]), (true, [11]), (false, [12])] #[0, 1, 3, 7, 15, 31, 63, 127, 255, 511, 1023, 2047, 4095, 8191, 127, 16511, 49279, 114815, 262143, 524287] [0, 1, 2, 3, 4, 5, 6, 7, 8, 9, 10, 11, 12, 13, 14, 15, 16, 17] 3 #[true, true, true, true, true, true, true, true, true, true, true, true, true, false, true, true, true, true, false, false] (by kernel_rfl) (by kernel_rfl) (by kernel_rfl) (fun w' => Fr (fun _ => False) wr w') (Fr.same wr).drew (fun d c a v w h => by cases d <;> exact h) ?_
   simp only [Lcl.opsOf, List.map_cons, List.map_nil, List.getElem?_toArray, List.getElem?_cons_succ, List.getElem?_cons_zero, Option.getD_some]
   refine Lcl.wpCalm_t ?_
   repeat (go_big_quiet_step (rfl))
   refine wpQuiet_nil ?_
   refine Lcl.wpCalm_f ?_
   repeat (go_big_quiet_step (rfl))
   refine wpQuiet_nil ?_
   refine Lcl.wpCalm_t ?_
   repeat (go_big_quiet_step (rfl))
   refine wpQuiet_nil ?_
   refine Lcl.wpCalm_f ?_
   repeat (go_big_quiet_step (rfl))
   refine wpQuiet_nil ?_
   refine Lcl.wpCalm_t ?_
   repeat (go_big_quiet_step (rfl))
   refine wpQuiet_nil ?_
   refine Lcl.wpCalm_f ?_
   repeat (go_big_quiet_step (rfl))
   refine wpQuiet_nil ?_
   refine Lcl.wpCalm_nil ?_
   clear z5
   refine Lcl.wpG_one 13 rfl (by kernel_rfl) ?_
   go_wp2_with fail
   refine ⟨fun _ h => h, ?_⟩
   refine Lcl.wpG_run [18, 19] _ _ _ (by kernel_rfl) ?_
   simp only [List.map_cons, List.map_nil, List.getElem?_toArray, List.getElem?_cons_succ, List.getElem?_cons_zero, Option.getD_some]
   go_wp2_with fail
   go_ret
   exact M.out.done (by rw [ER.out]; rfl) (Fr.same _).drew
  case cons.cons =>
   simp only [List.length_cons] at hsv hcl
   obtain ⟨a, ha, hca, -⟩ := hrd 0 x rfl
   subst ha
   subst hsv
   rw [add_zero'] at hca
   obtain ⟨m, hm⟩ : ∃ m, m = R.length + 1 + 1 := ⟨_, rfl⟩
   rw [← hm] at hcl HV
   have hm2 : (1 : Int) < (m : Int) := by omega
   have z5 : ∀ y : Lcl.InS (fun w' => Fr (fun _ => False) wr w'), y.w.cell? ⟨lb, 5, none⟩ = some (.slice (some a) m cap) := fun y => y.h.cel ((cell_of HV.out.b 5).trans rfl)
   have z4 : ∀ y : Lcl.InS (fun w' => Fr (fun _ => False) wr w'), y.w.cell? ⟨lb, 4, none⟩ = some (.int .i64 beg) := fun y => y.h.cel ((cell_of HV.out.b 4).trans rfl)
   have za : ∀ y : Lcl.InS (fun w' => Fr (fun _ => False) wr w'), y.w.cell? a = some (.pointer (some ⟨x.sb, 0, none⟩)) := fun y => y.h.cel hca
   have HZ := Lib.hid (send_walk ((HD.out.old (Fr.same wr).drew).lg.seg (e := x) (by simp)))
   have HM := Lib.hid hm
   have HCL := Lib.hid hcl
   clear hV hrd hca hm hcl
   go_wp2_with fail
   refine Lcl.wp_region_calm (by kernel_rfl) [(true, [0, 1, 2]), (false, [3]), (true, [4, 5, 6, 7, 8, 9, 14, 15, 16]), (false, [10, 17]), (true, [11]), (false, [12])] #[0, 1, 3, 7, 15, 31, 63, 127, 255, 511, 1023, 2047, 4095, 8191, 127, 16511, 49279, 114815, 262143, 524287] [0, 1, 2, 3, 4, 5, 6, 7, 8, 9, 10, 11, 12, 13, 14, 15, 16, 17] 3 #[true, true, true, true, true, true, true, true, true, true, true, true, true, false, true, true, true, true, false, false] (by kernel_rfl) (by kernel_rfl) (by kernel_rfl) (fun w' => Fr (fun _ => False) wr w') (Fr.same wr).drew (fun d c a v w h => by cases d <;> exact h) ?_
   simp only [Lcl.opsOf, List.map_cons, List.map_nil, List.getElem?_toArray, List.getElem?_cons_succ, List.getElem?_cons_zero, Option.getD_some]
   refine Lcl.wpCalm_t ?_
   repeat (go_big_quiet_step (rfl))
   refine wpQuiet_nil ?_
   refine Lcl.wpCalm_f ?_
   repeat (go_big_quiet_step (rfl))
   refine wpQuiet_nil ?_
   refine Lcl.wpCalm_t ?_
   repeat (go_big_quiet_step (rfl))
   refine wpQuiet_nil ?_
   refine Lcl.wpCalm_f ?_
   repeat (go_big_quiet_step (rfl))
   refine wpQuiet_nil ?_
   refine Lcl.wpCalm_t ?_
   repeat (go_big_quiet_step (rfl))
   refine wpQuiet_nil ?_
   refine Lcl.wpCalm_f ?_
   repeat (go_big_quiet_step (rfl))
   refine wpQuiet_nil ?_
   refine Lcl.wpCalm_nil ?_
   clear z5 z4 za
   refine Lcl.wpG_one 13 rfl (by kernel_rfl) ?_
   go_wp2_with fail
   refine HZ.out.mono ?_
   rintro e w1 ⟨rfl, hw1⟩
   have Q1 := Lib.hid (show Fr (fun _ => False) wr w1 from by rw [← hw1]; exact (Fr.same wr).drew)
   clear hw1 HZ
   go_wp2_with fail
   refine ⟨fun _ _ => Q1.out, ?_⟩
   refine Lcl.wpG_run [18, 19] _ _ _ (by kernel_rfl) ?_
   simp only [List.map_cons, List.map_nil, List.getElem?_toArray, List.getElem?_cons_succ, List.getElem?_cons_zero, Option.getD_some]
   by_cases hend : x.s.end' ≤ beg
   case neg =>
    go_wp2_with fail
    go_ret
    exact M.out.done (by rw [ER.out]; show trimN beg (x.s :: y.s :: _) = 0; rw [trimN, if_neg (by omega)]) Q1.out
   case pos =>
    go_wp2_with fail
    have z0 : ∀ y : Lcl.InS (fun w' => Fr (fun _ => False) w1 w'), y.w.cell? ⟨lb, 0, none⟩ = some (.string p) := fun y => (Q1.out.tr y.h).cel ((cell_of HV.out.b 0).trans rfl)
    have z1 : ∀ y : Lcl.InS (fun w' => Fr (fun _ => False) w1 w'), y.w.cell? ⟨lb, 1, none⟩ = some (.int .i64 lim) := fun y => (Q1.out.tr y.h).cel ((cell_of HV.out.b 1).trans rfl)
    have z2 : ∀ y : Lcl.InS (fun w' => Fr (fun _ => False) w1 w'), y.w.cell? ⟨lb, 2, none⟩ = some (.int .i64 ev) := fun y => (Q1.out.tr y.h).cel ((cell_of HV.out.b 2).trans rfl)
    have z3 : ∀ y : Lcl.InS (fun w' => Fr (fun _ => False) w1 w'), y.w.cell? ⟨lb, 3, none⟩ = some (.pointer (some ⟨db, 0, none⟩)) := fun y => (Q1.out.tr y.h).cel ((cell_of HV.out.b 3).trans rfl)
    have z5 : ∀ y : Lcl.InS (fun w' => Fr (fun _ => False) w1 w'), y.w.cell? ⟨lb, 5, none⟩ = some (.slice (some a) m cap) := fun y => (Q1.out.tr y.h).cel ((cell_of HV.out.b 5).trans rfl)
    have hca : wr.cell? a = some (.pointer (some ⟨x.sb, 0, none⟩)) := by
     obtain ⟨oa9, cap9, h1, -, -, h4⟩ := HV.out.rd
     injection h1 with h1
     obtain ⟨a9, h5, h6, -⟩ := h4 0 x rfl
     rw [← h1] at h5
     injection h5 with h5
     rw [h5, ← add_zero' a9]
     exact h6
    have za : ∀ y : Lcl.InS (fun w' => Fr (fun _ => False) w1 w'), y.w.cell? a = some (.pointer (some ⟨x.sb, 0, none⟩)) := fun y => (Q1.out.tr y.h).cel hca
    have HB1 := Lib.hid (sbase_walk ((HD.out.old (Q1.out.tr (Fr.same w1).drew)).lg.seg (e := x) (by simp)))
    have hxb := HV.out.evs x (by simp)
    have hnw := fun w2 => name_walk p lim ev x.s.base hxb w2 HV.out.p2
    unfold cfgV at hnw
    have HNW := Lib.hid hnw
    clear hnw hxb hca
    refine Lcl.wp_region_calm (by kernel_rfl) [(true, [0, 1, 2, 4, 5, 6, 8, 9, 10]), (false, [3, 7, 11]), (true, [12]), (false, [13])] #[0, 1, 3, 7, 0, 16, 48, 112, 0, 256, 768, 1792, 3840, 7936, 16128, 32752, 65535, 131071] [0, 1, 2, 3, 4, 5, 6, 7, 8, 9, 10, 11, 12, 13, 14, 15] 4 #[true, true, true, true, true, true, true, true, true, true, true, true, true, true, false, false, false, false] (by kernel_rfl) (by kernel_rfl) (by kernel_rfl) (fun w' => Fr (fun _ => False) w1 w') (Fr.same w1).drew (fun d c a v w h => by cases d <;> exact h) ?_
    simp only [Lcl.opsOf, List.map_cons, List.map_nil, List.getElem?_toArray, List.getElem?_cons_succ, List.getElem?_cons_zero, Option.getD_some]
    refine Lcl.wpCalm_t ?_
    repeat (go_big_quiet_step (rfl))
    refine wpQuiet_nil ?_
    refine Lcl.wpCalm_f ?_
    repeat (go_big_quiet_step (rfl))
    refine wpQuiet_nil ?_
    refine Lcl.wpCalm_t ?_
    repeat (go_big_quiet_step (rfl))
    refine wpQuiet_nil ?_
    refine Lcl.wpCalm_f ?_
    repeat (go_big_quiet_step (rfl))
    refine wpQuiet_nil ?_
    refine Lcl.wpCalm_nil ?_
    clear z0 z1 z2 z3 z5 za
    refine Lcl.wpG_one 14 rfl (by kernel_rfl) ?_
    go_wp2_with fail
    refine HB1.out.mono ?_
    rintro e w2 ⟨rfl, hw2⟩
    have Q2 := Lib.hid (show Fr (fun _ => False) w1 w2 from by rw [← hw2]; exact (Fr.same w1).drew)
    clear hw2 HB1
    go_wp2_with fail
    refine ⟨fun _ _ => Q2.out, ?_⟩
    refine Lcl.wpG_one 15 rfl (by kernel_rfl) ?_
    go_wp2_with fail
    refine (HNW.out _).mono ?_
    rintro e w3 ⟨rfl, hf3⟩
    have Q23 := Lib.hid (Q2.out.tr hf3)
    have Q3 := Lib.hid (Q1.out.tr (Q2.out.tr hf3))
    have D3 := Lib.hid (HD.out.old Q3.out)
    have hpost := ddrop_any D3.out.dk D3.out.ok (nmS p x.s.base) (by rw [nmS_size]; have := HV.out.p2; omega)
    have HPOST := Lib.hid hpost
    clear hf3 hpost HNW
    go_wp2_with fail
    refine ⟨fun _ _ => Q23.out, ?_⟩
    refine Lcl.wpG_one 16 rfl (by kernel_rfl) ?_
    go_wp2_with fail
    refine HPOST.out.mono ?_
    rintro e w4 ⟨rfl, hok, hno⟩
    by_cases hfu : fuse' = 0
    ·have hc : synCode fuse' L' (nmS p x.s.base) = 7 := by unfold synCode; rw [if_pos hfu]
     rw [hc] at hok hno ⊢
     have F4 := Lib.hid (Q3.out.tr (hno (by decide)))
     clear hok hno hc HPOST
     go_wp2_with fail
     refine ⟨fun h => absurd h (by decide), ?_⟩
     refine Lcl.wpG_run [17] _ _ _ (by kernel_rfl) ?_
     simp only [List.map_cons, List.map_nil, List.getElem?_toArray, List.getElem?_cons_succ, List.getElem?_cons_zero, Option.getD_some]
     go_wp2_with fail
     go_ret
     exact M.out.down hfu F4.out
    ·have hgs : (getL L' (nmS p x.s.base)).isSome = true := D3.out.fl.has List.mem_cons_self (D3.out.fl.full x.s (by show x.s ∈ (x.s :: y.s :: R.map (·.s)).dropLast; simp))
     have hc : synCode fuse' L' (nmS p x.s.base) = 0 := by unfold synCode; rw [if_neg hfu, if_pos hgs]
     rw [hc] at hok hno ⊢
     obtain ⟨hd4, hf4⟩ := hok rfl
     have D4 := Lib.hid hd4
     have F4 := Lib.hid ((Q3.out.mono (S' := DkS db mb L') fun i h => h.elim).trans hf4 fun i h => .inl h)
     have hlb4 := (F4.out.block lb (lt_of_heap HV.out.b) (HV.out.ap lb (.inl rfl))).trans HV.out.b
     have HLB4 := Lib.hid hlb4
     have k5 : w4.cell? ⟨lb, 5, none⟩ = some (.slice (some a) m cap) := (cell_of hlb4 5).trans rfl
     have f5 := fz_of hlb4 5
     clear hok hno hc HPOST hd4 hf4 hgs hlb4
     go_wp2_with fail
     refine ⟨fun h => absurd h (by decide), ?_⟩
     refine Lcl.wpG_run [17] _ _ _ (by kernel_rfl) ?_
     simp only [List.map_cons, List.map_nil, List.getElem?_toArray, List.getElem?_cons_succ, List.getElem?_cons_zero, Option.getD_some]
     go_wp2_with fail
     have hadd : a.add 1 = ⟨a.block, a.off + 1, none⟩ := by
      have h9 := add_add a 0 1 (by omega)
      rw [add_zero'] at h9
      simpa using h9
     have hcap : cap ≠ 1 := by have := HCL.out; omega
     have hm1 : m - 1 = R.length + 1 := by have := HM.out; omega
     simp only [if_neg hcap]
     rw [hm1, ← hadd]
     have hbb : (w4.setCell ⟨lb, 5, none⟩ (.slice (some (a.add 1)) (R.length + 1) (cap - 1))).heap[lb]? = some (lgObj p lim ev db beg (.slice (some (a.add 1)) (R.length + 1) (cap - 1))) := by
      rw [heap_setCell_self HLB4.out]; rfl
     have hVm := HV.out
     rw [HM.out] at hVm
     obtain ⟨L2, S2, us2, hM2⟩ := M.out.step ER.out hend hVm HSS.out D4.out F4.out (Fr.setCell (S := fun i => i = lb) (p := ⟨lb, 5, none⟩) (Fr.refl _ _) (.inl rfl) _) hbb
     refine ⟨⟨_, _, _, _, _, _, hM2⟩, ?_⟩
     rw [lenOf_eq ((cell_of hbb 5).trans rfl), lenOf_eq ((cell_of HV.out.b 5).trans rfl), HM.out]
     omega
end
end Go.Proofs.YtdlnafhhkpklmaaGreatDoor
/- A log's segments read from its disk: laws, and the walk of readAll. -/
namespace Go.Proofs.YtdlnafhhkpklmaaGreatDoor
open Go.RowKit Go.Fm Go.BigFrame Go.Shelf Go.Maps
set_option linter.unusedVariables false
set_option linter.unusedSimpArgs false
set_option maxRecDepth 100000
section
variable {B : Nat} {w w' w1 w2 w3 wr : World} {lb db mb : Nat} {p : ByteArray} {lim ev : Nat} {beg : Int} {es es' : List PE} {own own' : Bool} {L L' : List Row} {S S' : Nat → Prop} {room used fuse used' fuse' used2 : Int} {F F' F2 : ByteArray → ByteArray × Nat} {G : Nat → Prop} {n j k : Nat} {ts : List Seg} {N : List ByteArray}
def isOwn (p nm : ByteArray) : Bool := Lib.hasPrefix nm.data.toList (dashS p).data.toList
/-- What a log's files tell when it is opened: of each segment the batches that are there. -/
structure OpIn (p : ByteArray) (ev : Nat) (ts : List Seg) (L : List Row) (F : ByteArray → ByteArray × Nat) : Prop where
 own : ∀ nm, (getL L nm).isSome = true → isOwn p nm = true → ∃ t ∈ ts, nm = nmS p t.base
 has : ∀ t ∈ ts, (getL L (nmS p t.base)).isSome = true
 scan : ∀ t ∈ ts, ∃ q, Scan (F (nmS p t.base)).1 0 t.base t.l q ∧ (F (nmS p t.base)).1.extract 0 q = catB t.l ∧ (F (nmS p t.base)).2 = (F (nmS p t.base)).1.size
 rise : ts.Pairwise fun a b => a.base < b.base ∧ a.end' ≤ b.base
 bb : ∀ t ∈ ts, t.base ≤ 1099511627776
 len : ∀ t ∈ ts, t.l.length ≤ 700
 full : ∀ t ∈ ts.dropLast, t.l ≠ []
 evs : ∀ t ∈ ts, t.every = ev
theorem getL_in {L : List Row} {nm : ByteArray} : (getL L nm).isSome = true ↔ nm ∈ L.map (·.1) := by
 unfold getL
 rw [Option.isSome_map, List.find?_isSome, List.mem_map]
 exact ⟨fun ⟨r, hr, e⟩ => ⟨r, hr, by simpa using e⟩, fun ⟨r, hr, e⟩ => ⟨r, hr, by simpa using e⟩⟩
theorem sortB_sorted (ns : List ByteArray) : (sortB ns).Pairwise fun x y => x.data.toList ≤ y.data.toList := by
 unfold sortB
 rw [List.pairwise_map]
 refine (List.pairwise_mergeSort (le := bleL) bleL_trans bleL_total _).imp fun {a b} h => ?_
 rw [list_strB, list_strB]
 unfold bleL at h
 simpa using h
theorem own_names (h : OpIn p ev ts L F) (hn : (L.map (·.1)).Nodup) : (sortB (L.map (·.1))).filter (isOwn p) = ts.map fun t => nmS p t.base := by
 have hinj : ∀ a ∈ ts, ∀ b ∈ ts, nmS p a.base = nmS p b.base → a.base = b.base := fun a ha b hb e => nmS_inj (h.bb a ha) (h.bb b hb) e
 have hnd : (ts.map fun t => nmS p t.base).Nodup := by
  unfold List.Nodup
  rw [List.pairwise_map]
  refine List.Pairwise.imp_of_mem ?_ h.rise
  intro a b ha hb h1 e
  have := hinj a ha b hb e
  omega
 have hN : (sortB (L.map (·.1))).Nodup := (sortB_perm _).symm.nodup hn
 refine List.Perm.eq_of_pairwise (le := fun x y : ByteArray => x.data.toList ≤ y.data.toList) (fun x y _ _ hx hy => bytes_ext (List.le_antisymm hx hy)) ((sortB_sorted _).sublist List.filter_sublist) ?_ ((List.perm_ext_iff_of_nodup (hN.sublist List.filter_sublist) hnd).2 fun nm => ?_)
 ·rw [List.pairwise_map]
  refine List.Pairwise.imp_of_mem ?_ h.rise
  intro a b ha hb h1
  exact nmS_le (by omega) (h.bb b hb)
 ·rw [List.mem_filter, (sortB_perm _).mem_iff, ← getL_in, List.mem_map]
  constructor
  ·rintro ⟨h1, h2⟩
   obtain ⟨t, ht, e⟩ := h.own nm h1 h2
   exact ⟨t, ht, e.symm⟩
  ·rintro ⟨t, ht, rfl⟩
   exact ⟨h.has t ht, nmS_pre p t.base⟩
structure RdM (B : Nat) (w : World) (lb db mb : Nat) (p : ByteArray) (lim ev : Nat) (beg : Int) (ts : List Seg) (L : List Row) (room : Int) (F : ByteArray → ByteArray × Nat) (N : List ByteArray) (k : Nat) (es : List PE) (used : Int) (F' : ByteArray → ByteArray × Nat) (wr : World) : Prop where
 lg : ∃ sv G, LgV B wr lb db mb p lim ev beg es true L sv G ∧ ∀ i, (G i ∨ ∃ e ∈ es, e.S i) → w.heap.size ≤ i
 dk : Dk wr db mb room used (-1) L F'
 ok : DkOK room used (-1) L F'
 us : used = usd L F'
 ur : used ≤ room
 sg : segsOf es = ts.take es.length
 ln : es.length ≤ ts.length
 cn : ((N.take k).filter (isOwn p)).length = es.length
 dn : ∀ i t, i < es.length → ts[i]? = some t → F' (nmS p t.base) = (catB t.l, (catB t.l).size)
 rs : ∀ nm, (∀ i t, i < es.length → ts[i]? = some t → nm ≠ nmS p t.base) → F' nm = F nm
 fr : Fr (fun i => i = lb ∨ DkS db mb L i) w wr
theorem RdM.old (M : RdM B w lb db mb p lim ev beg ts L room F N k es used F' wr) (hf : Fr (fun _ => False) wr w1) : RdM B w lb db mb p lim ev beg ts L room F N k es used F' w1 := by
 obtain ⟨sv, G, h1, h2⟩ := M.lg
 exact ⟨⟨sv, G, h1.fr hf fun _ _ h => h, h2⟩, M.dk.old hf, M.ok, M.us, M.ur, M.sg, M.ln, M.cn, M.dn, M.rs, M.fr.trans hf fun _ h => h.elim⟩
theorem RdM.base (M : RdM B w1 lb db mb p lim ev beg ts L room F N k es used F' wr) (hf : Fr (fun _ => False) w w1) : RdM B w lb db mb p lim ev beg ts L room F N k es used F' wr := by
 obtain ⟨sv, G, h1, h2⟩ := M.lg
 exact ⟨⟨sv, G, h1, fun i hi => Nat.le_trans hf.size (h2 i hi)⟩, M.dk, M.ok, M.us, M.ur, M.sg, M.ln, M.cn, M.dn, M.rs, (hf.mono (S' := fun i => i = lb ∨ DkS db mb L i) fun _ h => h.elim).trans M.fr fun i h => .inl h⟩
theorem RdM.skip (M : RdM B w lb db mb p lim ev beg ts L room F N k es used F' wr) {nm : ByteArray} (hk : N[k]? = some nm) (hno : isOwn p nm = false) (hf : Fr (fun _ => False) wr w1) : RdM B w lb db mb p lim ev beg ts L room F N (k + 1) es used F' w1 := by
 have M1 := M.old hf
 refine ⟨M1.lg, M1.dk, M1.ok, M1.us, M1.ur, M1.sg, M1.ln, ?_, M1.dn, M1.rs, M1.fr⟩
 rw [take_snoc' hk, List.filter_append, List.filter_cons_of_neg (by simp [hno])]
 simpa using M1.cn
/-- The next name of the log's own is that of the next segment. -/
theorem RdM.next (M : RdM B w lb db mb p lim ev beg ts L room F N k es used F' wr) (hN : N.filter (isOwn p) = ts.map fun t => nmS p t.base) {nm : ByteArray} (hk : N[k]? = some nm) (hyes : isOwn p nm = true) : ∃ t, ts[es.length]? = some t ∧ nm = nmS p t.base := by
 have h1 : N = N.take k ++ nm :: N.drop (k + 1) := by
  have hlt := (List.getElem?_eq_some_iff.1 hk).1
  conv => lhs; rw [← List.take_append_drop k N]
  congr 1
  rw [List.drop_eq_getElem_cons hlt]
  congr 1
  exact (List.getElem?_eq_some_iff.1 hk).2
 have h2 : (N.filter (isOwn p))[es.length]? = some nm := by
  rw [h1, List.filter_append, List.filter_cons_of_pos hyes, List.getElem?_append_right (by rw [M.cn]; exact Nat.le_refl _), M.cn, Nat.sub_self]
  rfl
 rw [hN, List.getElem?_map, Option.map_eq_some_iff] at h2
 obtain ⟨t, h3, h4⟩ := h2
 exact ⟨t, h3, h4.symm⟩
theorem RdM.fresh (M : RdM B w lb db mb p lim ev beg ts L room F N k es used F' wr) (h : OpIn p ev ts L F) {t : Seg} (ht : ts[es.length]? = some t) : F' (nmS p t.base) = F (nmS p t.base) := by
 refine M.rs _ fun i t' hi ht' e => ?_
 have hlt := (List.getElem?_eq_some_iff.1 ht).1
 have h1 := nmS_inj (h.bb t (List.mem_of_getElem? ht)) (h.bb t' (List.mem_of_getElem? ht')) e
 have h2 := List.pairwise_iff_getElem.1 h.rise i es.length (by omega) hlt hi
 rw [(List.getElem?_eq_some_iff.1 ht).2, (List.getElem?_eq_some_iff.1 ht').2] at h2
 omega
/-- A segment's file is opened: what the disk holds. -/
theorem open_disk (ho : DkOK room used (-1) L F') (hnd : (L.map (·.1)).Nodup) (hus : used = usd L F') (hur : used ≤ room) {nm txt : ByteArray} {l : List Bat} {e : Int} {q : Nat} (hg : (getL L nm).isSome = true) (hF : F' nm = (txt, txt.size)) (hsc : Scan txt 0 e l q) (hx : txt.extract 0 q = catB l)
  (h1 : q < txt.size → Dk w2 db mb room (used - (txt.size - q)) (burn (-1)) L (updF F' nm (txt.extract 0 q) (min txt.size q))) (h2 : ¬ q < txt.size → Dk w2 db mb room used (-1) L F') :
  ∃ used2 F2, Dk w2 db mb room used2 (-1) L F2 ∧ DkOK room used2 (-1) L F2 ∧ used2 = usd L F2 ∧ used2 ≤ room ∧ F2 nm = (catB l, (catB l).size) ∧ ∀ x, x ≠ nm → F2 x = F' x := by
 obtain ⟨h3, h4, -⟩ := hsc.at'
 have h5 : (catB l).size = q := by rw [catB_size]; omega
 by_cases hq : q < txt.size
 ·have hd := h1 hq
  rw [hx, show min txt.size q = q by omega] at hd
  have hb : burn (-1) = -1 := rfl
  rw [hb] at hd
  obtain ⟨fb, hg⟩ := Option.isSome_iff_exists.1 hg
  have hu := usd_upd (F := F') (nm := nm) (t := catB l) (n := q) hnd ⟨_, getL_some hg, rfl⟩
  rw [hF] at hu
  dsimp only at hu
  have hu0 := ho.u0
  refine ⟨_, _, hd, ⟨?_, ?_, ho.fw, fun r hr => ?_⟩, ?_, by omega, by rw [updF_same, h5], fun x hx => updF_ne hx⟩
  ·have := usd_mem (F := F') (getL_some hg); rw [hF] at this; dsimp only at this; omega
  ·have := ho.u1; omega
  ·by_cases e : r.1 = nm
   ·rw [e, updF_same]
    have := (ho.fs _ (getL_some hg)).1
    rw [hF] at this
    dsimp only at this ⊢
    omega
   ·rw [updF_ne e]; exact ho.fs r hr
  ·omega
 ·have hqe : q = txt.size := by omega
  rw [hqe, ByteArray.extract_zero_size] at hx
  refine ⟨used, F', h2 hq, ho, hus, hur, by rw [hF, ← hx], fun _ _ => rfl⟩
theorem RdM.step {x : PE} {t : Seg} {sv v' : Value} (M : RdM B w lb db mb p lim ev beg ts L room F N k es used F' wr) (h : OpIn p ev ts L F) (ht : ts[es.length]? = some t) (hk : N[k]? = some (nmS p t.base)) (hxs : x.s = t) (hV : LgV B wr lb db mb p lim ev beg es true L sv G) (hnew : ∀ i, (G i ∨ ∃ e ∈ es, e.S i) → w.heap.size ≤ i)
  (hf2 : Fr (DkS db mb L) wr w2) (hx : Sg B w2 x.sb db (nmS p x.s.base) x.s x.S) (hxS : ∀ i, x.S i → wr.heap.size ≤ i ∧ i < w2.heap.size) (hd : Dk w2 db mb room used2 (-1) L F2) (ho : DkOK room used2 (-1) L F2) (hus : used2 = usd L F2) (hur : used2 ≤ room) (hF2 : F2 (nmS p t.base) = (catB t.l, (catB t.l).size)) (hF : ∀ x, x ≠ nmS p t.base → F2 x = F' x)
  (hf3 : Fr (fun i => i = lb ∨ sv.ownBlock = some i) w2 w3) (hb : w3.heap[lb]? = some (lgObj p lim ev db beg v')) (hown : w3.ownsRow B 96 1 v' (es ++ [x]).length ((es ++ [x]).map segV)) (hv : v'.ownBlock = sv.ownBlock ∨ ∃ g, v'.ownBlock = some g ∧ w2.heap.size ≤ g ∧ g < w3.heap.size) (hB : B ≤ w.heap.size) (hn : es.length < 700) :
  RdM B w lb db mb p lim ev beg ts L room F N (k + 1) (es ++ [x]) used2 F2 w3 := by
 have hV2 := hV.fr hf2 fun i hi => hV.ap i hi
 have hfsz := M.fr.size
 have hV3 := hV2.push hf3 hb hown hv hx (fun i hi => by
  have h1 := hxS i hi
  refine ⟨by omega, h1.2, fun h9 => ?_, fun h9 => ?_⟩
  ·have := (hV.lt i h9).2; omega
  ·have := M.dk.lt h9; omega) (fun i hi => hd.lt hi) (by omega) (by rw [hxs]; exact h.bb t (List.mem_of_getElem? ht))
 have hlt := (List.getElem?_eq_some_iff.1 ht).1
 have hln : (es ++ [x]).length = es.length + 1 := by simp
 refine ⟨⟨_, _, hV3, fun i hi => ?_⟩, ?_, ho, hus, hur, ?_, by rw [hln]; omega, ?_, fun i t' hi ht' => ?_, fun nm hnm => ?_, (M.fr.trans hf2 fun i hi => .inl (.inr hi)).trans hf3 fun i hi => ?_⟩
 ·rcases hi with hi | ⟨e, he, hi⟩
  ·rcases hv with h1 | ⟨g, h1, h2, h3⟩
   ·rw [h1] at hi; exact hnew i (.inl ((hV.ow rfl).2 i hi))
   ·rw [h1] at hi; injection hi with hi; have := hf2.size; omega
  ·rcases List.mem_append.1 he with he | he
   ·exact hnew i (.inr ⟨e, he, hi⟩)
   ·obtain rfl : e = x := by simpa using he
    have := hxS i hi; omega
 ·exact hd.fr hf3 fun i hi h1 => by
   rcases h1 with h1 | h1
   ·exact hV.ap lb (.inl rfl) (h1 ▸ hi)
   ·exact hV.ap i (.inr (.inl ((hV.ow rfl).2 i h1))) hi
 ·rw [segs_concat, hln, take_snoc' ht, ← M.sg, hxs]
 ·rw [take_snoc' hk, List.filter_append, List.filter_cons_of_pos (show isOwn p (nmS p t.base) = true from nmS_pre p t.base), List.length_append, M.cn, hln]
  rfl
 ·rw [hln] at hi
  rcases Nat.lt_or_ge i es.length with h1 | h1
  ·rw [hF _ ?_]
   ·exact M.dn i t' h1 ht'
   ·intro e
    have h2 := nmS_inj (h.bb t' (List.mem_of_getElem? ht')) (h.bb t (List.mem_of_getElem? ht)) e
    have h3 := List.pairwise_iff_getElem.1 h.rise i es.length (by omega) hlt h1
    rw [(List.getElem?_eq_some_iff.1 ht).2, (List.getElem?_eq_some_iff.1 ht').2] at h3
    omega
  ·obtain rfl : i = es.length := by omega
   rw [ht] at ht'
   injection ht' with ht'
   subst ht'
   exact hF2
 ·rw [hF nm (hnm es.length t (by rw [hln]; omega) ht)]
  exact M.rs nm fun i t' hi ht' => hnm i t' (by rw [hln]; omega) ht'
 ·rcases hi with hi | hi
  ·exact .inl (.inl hi)
  ·exact .inr (hnew i (.inl ((hV.ow rfl).2 i hi)))
end
section
variable {B : Nat} {w w' w1 w2 w3 wr : World} {lb db mb : Nat} {p : ByteArray} {lim ev : Nat} {beg : Int} {es es' : List PE} {own own' : Bool} {L L' : List Row} {S S' : Nat → Prop} {room used fuse used' fuse' used2 : Int} {F F' F2 : ByteArray → ByteArray × Nat} {G : Nat → Prop} {n j k : Nat} {ts : List Seg} {N : List ByteArray}
def RdAllPost (B : Nat) (w : World) (lb db mb : Nat) (p : ByteArray) (lim ev : Nat) (beg : Int) (ts : List Seg) (L : List Row) (room : Int) (F : ByteArray → ByteArray × Nat) (e : Ending) (w' : World) : Prop :=
 e = .returned (.int .i64 0) ∧ ∃ k es used' F', RdM B w lb db mb p lim ev beg ts L room F (sortB (L.map (·.1))) k es used' F' w' ∧ es.length = ts.length
set_option maxHeartbeats 16000000 in
theorem readAll_walk (hV0 : LgV B w lb db mb p lim ev beg [] true L (.slice none 0 0) (fun _ => False)) (hd : Dk w db mb room used (-1) L F) (ho : DkOK room used (-1) L F) (hus : used = usd L F) (hur : used ≤ room) (hrm : room ≤ 4194304) (hin : OpIn p ev ts L F) (hst : StepsOK w) (hB : B ≤ w.heap.size) (hB1 : 1 ≤ B) (hlen : L.length ≤ 700) (hdb : ∀ i, DkS db mb L i → B ≤ i) :
  Calls Tryz.prog 46 #[.pointer (some ⟨lb, 0, none⟩)] w (RdAllPost B w lb db mb p lim ev beg ts L room F) := by
 have hnd := hd.m.1.nodup
 have hON := own_names hin hnd
 have hlN : (sortB (L.map (·.1))).length = L.length := by rw [(sortB_perm _).length_eq, List.length_map]
 have htl : ts.length ≤ L.length := by
  have h1 := congrArg List.length hON
  rw [List.length_map] at h1
  have h2 := List.length_filter_le (isOwn p) (sortB (L.map (·.1)))
  omega
 have hNM := names_walk hd (by decide)
 have c3 : w.cell? ⟨lb, 3, none⟩ = some (.pointer (some ⟨db, 0, none⟩)) := (cell_of hV0.b 3).trans rfl
 have hlblt := lt_of_heap hV0.b
 have HP := Lib.hid (And.intro hV0.p1 (And.intro hV0.p2 (And.intro hV0.e1 hV0.e2)))
 have hlbB := (hV0.lt lb (.inl rfl)).1
 have HLB := Lib.hid hlbB
 have HDLT := Lib.hid (fun i (h : DkS db mb L i) => hd.lt h)
 have HDB := Lib.hid hdb
 obtain ⟨N, hNe⟩ : ∃ N, N = sortB (L.map (·.1)) := ⟨_, rfl⟩
 unfold RdAllPost
 rw [← hNe] at hON hlN hNM ⊢
 rw [← hlN] at hNM hlen
 have HN := Lib.hid hNM
 have HON := Lib.hid hON
 have HLN := Lib.hid hlen
 have HTL := Lib.hid (show ts.length ≤ 700 from by omega)
 have HIN := Lib.hid hin
 have HST := Lib.hid hst
 have HND := Lib.hid hnd
 have H0 := Lib.hid (And.intro hV0 (And.intro hd (And.intro ho (And.intro hus hur))))
 clear hV0 hd ho hus hur hin hst hON hNM hlen hlN htl hNe hnd hlbB hdb
 go_enter Tryz.func46, Tryz.ntmps46
 go_wp2_with fail
 refine HN.out.mono ?_
 rintro e w1 ⟨v, rfl, hown, hf⟩
 obtain ⟨no, nc, rfl, hcells⟩ := own_at hown
 have M1 := Lib.hid (show RdM B w1 lb db mb p lim ev beg ts L room F N 0 [] used F w1 from
  ⟨⟨_, _, H0.out.1.fr hf fun _ _ h => h, fun i hi => hi.elim (fun h => h.elim) fun ⟨e, he, _⟩ => (by cases he)⟩, H0.out.2.1.old hf, H0.out.2.2.1, H0.out.2.2.2.1, H0.out.2.2.2.2, rfl, Nat.zero_le _, rfl, fun i t hi => absurd hi (by simp), fun _ _ => rfl, Fr.refl _ _⟩)
 have hB1w : B ≤ w1.heap.size := Nat.le_trans hB hf.size
 have hcl : ∀ (k : Nat) nm, N[k]? = some nm → ∃ a, no = some a ∧ w1.cell? (a.add k) = some (.string nm) ∧ ¬ (a.block = lb ∨ DkS db mb L a.block) := fun k nm hk => by
  have hlt := (List.getElem?_eq_some_iff.1 hk).1
  obtain ⟨g, rfl, -, hBg, hc⟩ := hcells (by omega)
  refine ⟨_, rfl, ?_, fun h => ?_⟩
  ·rw [add_lit]
   exact hc k _ (by rw [keyC_map, List.getElem?_map, hk]; rfl)
  ·rcases h with h | h
   ·have : g = lb := h
    omega
   ·have := HDLT.out _ h
    have h9 : (⟨g, 0, none⟩ : Addr).block = g := rfl
    rw [h9] at this
    omega
 have HCL := Lib.hid hcl
 have F01 := Lib.hid hf
 clear hown hcells hcl hf H0 HN c3
 go_wp2_with fail
 go_loopw [16] (fun i wr => ∃ (k : Nat) (es : List PE) (used' : Int) (F' : ByteArray → ByteArray × Nat), i = .int .i64 k ∧ k ≤ N.length ∧ RdM B w1 lb db mb p lim ev beg ts L room F N k es used' F' wr) (fun i _ => N.length - (intOf i).toNat)
 case atStart => exact ⟨0, [], used, F, rfl, Nat.zero_le _, M1.out⟩
 case round =>
  obtain ⟨k, es, used', F', rfl, hkl, hM⟩ := hrel
  have M := Lib.hid hM
  clear hM M1
  rcases Nat.lt_or_ge k N.length with hlt | hge
  case inr =>
   obtain rfl : k = N.length := by omega
   go_wp2_with fail
   go_ret
   refine ⟨rfl, N.length, es, used', F', M.out.base F01.out, ?_⟩
   have h1 := M.out.cn
   rw [List.take_length, HON.out, List.length_map] at h1
   exact h1.symm
  case inl =>
   obtain ⟨nm, hnm⟩ := get_of_lt hlt
   obtain ⟨a, hao, hca, hna⟩ := HCL.out k nm hnm
   have hca := M.out.fr.cell hca (by rw [add_block]; exact hna)
   obtain ⟨sv, G, hV, hnew⟩ := M.out.lg
   have k0 : wr.cell? ⟨lb, 0, none⟩ = some (.string p) := (cell_of hV.b 0).trans rfl
   have k1 : wr.cell? ⟨lb, 1, none⟩ = some (.int .i64 lim) := (cell_of hV.b 1).trans rfl
   have k2 : wr.cell? ⟨lb, 2, none⟩ = some (.int .i64 ev) := (cell_of hV.b 2).trans rfl
   have HV := Lib.hid hV
   have HNEW := Lib.hid hnew
   have HNM := Lib.hid hnm
   subst hao
   clear hV hnew hna
   cases hyes : isOwn p nm
   case false =>
    have hbn := fun w2 => base_no p nm lim ev w2 HP.out.2.1 hyes
    unfold cfgV BasePost at hbn
    have HBN := Lib.hid hbn
    have HY := Lib.hid hyes
    clear hbn hnm hyes
    have hk7 := HLN.out
    go_wp2_with fail
    refine (HBN.out _).mono ?_
    rintro e w2 ⟨rfl, hf2⟩
    have M2 := Lib.hid (M.out.skip HNM.out HY.out hf2)
    clear hf2
    go_wp2_with fail
    go_roundw
    case rel => exact ⟨k + 1, es, used', F', by go_num, hlt, M2.out⟩
    case measure => simp [intOf]; omega
   case true =>
    obtain ⟨t, ht, hnt⟩ := M.out.next HON.out hnm hyes
    subst hnt
    have hbb := HIN.out.bb t (List.mem_of_getElem? ht)
    have hby := fun w2 => base_yes p t.base lim ev w2 HP.out.2.1 hbb
    unfold cfgV BasePost at hby
    have HBY := Lib.hid hby
    have HT := Lib.hid ht
    clear hby hnm hyes ht
    go_wp2_with fail
    refine (HBY.out _).mono ?_
    rintro e w2 ⟨rfl, hf2⟩
    have M2 := Lib.hid (M.out.old hf2)
    have HV2 := Lib.hid (HV.out.fr hf2 fun _ _ h => h)
    have hdlb : ¬ DkS db mb L lb := HV2.out.ap lb (.inl rfl)
    have z2 : ∀ y : Lcl.InS (fun w' => Fr (DkS db mb L) w2 w'), y.w.cell? ⟨lb, 2, none⟩ = some (.int .i64 ev) := fun y => y.h.cell ((cell_of HV2.out.b 2).trans rfl) hdlb
    have z3 : ∀ y : Lcl.InS (fun w' => Fr (DkS db mb L) w2 w'), y.w.cell? ⟨lb, 3, none⟩ = some (.pointer (some ⟨db, 0, none⟩)) := fun y => y.h.cell ((cell_of HV2.out.b 3).trans rfl) hdlb
    clear hf2 HV M k0 k1 k2 hca hdlb
    go_wp2_with fail
    refine Lcl.wp_region_calm (by kernel_rfl) [(true, [0, 1, 2, 4, 5, 6, 7, 8, 9]), (false, [3, 10])] #[0, 1, 3, 7, 0, 0, 0, 64, 192, 448, 960, 2047, 4095, 8191, 8191, 16383, 65535] [0, 1, 2, 3, 4, 5, 6, 7, 8, 9, 10] 6 #[true, true, true, true, true, true, true, true, true, true, true, false, false, false, false, false, false] (by kernel_rfl) (by kernel_rfl) (by kernel_rfl) (fun w' => Fr (DkS db mb L) w2 w') (Fr.refl _ w2).drew (fun d c a v w h => by cases d <;> exact h) ?_
    simp only [Lcl.opsOf, List.map_cons, List.map_nil, List.getElem?_toArray, List.getElem?_cons_succ, List.getElem?_cons_zero, Option.getD_some]
    refine Lcl.wpCalm_t ?_
    repeat (go_big_quiet_step (rfl))
    refine wpQuiet_nil ?_
    refine Lcl.wpCalm_f ?_
    repeat (go_big_quiet_step (rfl))
    refine wpQuiet_nil ?_
    refine Lcl.wpCalm_nil ?_
    clear z2 z3
    have Q3 := Lib.hid ((Fr.same w2).drew)
    have Q3D := Lib.hid (Q3.out.mono (S' := DkS db mb L) fun i h => h.elim)
    have M3 := Lib.hid (M2.out.old Q3.out)
    have HV3 := Lib.hid (HV2.out.fr Q3.out fun _ _ h => h)
    generalize w2.drew = w3 at *
    have hgs := HIN.out.has t (List.mem_of_getElem? HT.out)
    obtain ⟨q, hsc, hx, hsz⟩ := HIN.out.scan t (List.mem_of_getElem? HT.out)
    have hFt := M3.out.fresh HIN.out HT.out
    obtain ⟨txt, htx⟩ : ∃ txt, txt = (F (nmS p t.base)).1 := ⟨_, rfl⟩
    have hF1 : F' (nmS p t.base) = (txt, txt.size) := by rw [hFt, htx, ← hsz]
    rw [← htx] at hsc hx
    obtain ⟨fb, hg⟩ := Option.isSome_iff_exists.1 hgs
    have htm : txt.size ≤ 900000000 := by
     have h1 := usd_mem (F := F') (getL_some hg)
     rw [hF1] at h1
     have h2 := M3.out.us
     have h3 := M3.out.ur
     dsimp only at h1
     omega
    have hnm := nmS_size p t.base
    have hp1 := HP.out.1
    have hp2 := HP.out.2.1
    have hBw : B ≤ w3.heap.size := by have := M3.out.fr.size; omega
    have HOP := Lib.hid (sopen_some (B := B) M3.out.dk M3.out.ok (by decide) (nmS p t.base) (by omega) (by omega) t.base ev hbb HP.out.2.2.1 HP.out.2.2.2 hg txt txt.size hF1 htm t.l q hsc (HST.out.fr (M3.out.base F01.out).fr fun h => by
     rcases h with h | h
     ·have := HLB.out; omega
     ·have := HDB.out _ h; omega) (by have := HIN.out.len t (List.mem_of_getElem? HT.out); omega) hBw (by omega))
    have HSC := Lib.hid (And.intro hsc (And.intro hx (And.intro hF1 hgs)))
    clear hsc hx hsz hFt htx hF1 hg hgs htm hnm hp1 hp2 hBw
    refine Lcl.wpG_one 11 rfl (by kernel_rfl) ?_
    go_wp2_with fail
    refine HOP.out.mono ?_
    rintro e wo ⟨sb, So, rfl, hso, hSo, hcut, hsame, hfo⟩
    obtain ⟨used2, F2, hd2, ho2, hus2, hur2, hF2, hF2n⟩ := open_disk M3.out.ok HND.out M3.out.us M3.out.ur HSC.out.2.2.2 HSC.out.2.2.1 HSC.out.1 HSC.out.2.1 hcut hsame
    have FO := Lib.hid hfo
    have SO := Lib.hid hso
    have SOL := Lib.hid hSo
    have D2 := Lib.hid (And.intro hd2 (And.intro ho2 (And.intro hus2 (And.intro hur2 (And.intro hF2 hF2n)))))
    have HVo := Lib.hid (HV3.out.fr hfo fun i hi => HV3.out.ap i hi)
    have hlo : lb < wo.heap.size := lt_of_heap HVo.out.b
    clear hfo hso hSo hcut hsame hd2 ho2 hus2 hur2 hF2 hF2n HOP
    go_wp2_with fail
    refine ⟨fun h => absurd h (by decide), ?_⟩
    refine Lcl.wpG_one 12 rfl (by kernel_rfl) ?_
    go_wp2_with fail
    refine ⟨fun h => absurd h (by decide), ?_⟩
    refine Lcl.wpG_calm (m := #[0, 1, 3, 7, 0, 0, 0, 64, 192, 448, 960, 2047, 4095, 8191, 8191, 16383, 65535]) (needs := [0, 1, 2, 3, 4, 5, 6, 7, 8, 9, 10]) (fuel := 0) (by kernel_rfl) ?hqA (Q3D.out.trans FO.out fun i h => .inl h) [(true, [13, 14, 15, 16])] _ _ ?k1A ?k2A ?k3A ?k4A
    case hqA => exact fun d c a v w h => by cases d <;> exact h
    case k1A => kernel_rfl
    case k2A => rfl
    case k3A => kernel_rfl
    simp only [Lcl.opsOf, List.map_cons, List.map_nil, List.getElem?_toArray, List.getElem?_cons_succ, List.getElem?_cons_zero, Option.getD_some]
    refine Lcl.wpCalm_t ?_
    repeat (go_big_quiet_step (rfl))
    refine wpQuiet_nil ?_
    refine Lcl.wpCalm_nil ?_
    refine Lcl.wpG_run [] _ _ _ (by kernel_rfl) ?_
    simp only [List.map_cons, List.map_nil, List.getElem?_toArray, List.getElem?_cons_succ, List.getElem?_cons_zero, Option.getD_some]
    obtain ⟨oa2, cap2, hsv, hcl2, -, hrd⟩ := HVo.out.rd
    have hown := (HVo.out.ow rfl).1
    obtain ⟨m, hm⟩ : ∃ m, m = es.length := ⟨_, rfl⟩
    obtain ⟨xs, hxs⟩ : ∃ xs, xs = es.map segV := ⟨_, rfl⟩
    rw [← hm] at hsv hown
    rw [← hxs] at hown
    subst hsv
    have HM := Lib.hid hm
    have HXS := Lib.hid hxs
    have HRD := Lib.hid hrd
    have k5 : wo.cell? ⟨lb, 5, none⟩ = some (.slice oa2 m cap2) := (cell_of HVo.out.b 5).trans rfl
    have HOWN := Lib.hid hown
    clear hown hxs hrd hm hcl2
    have hm7 : m ≤ 700 := by have := HM.out; have := M3.out.ln; have := HTL.out; omega
    rcases Nat.eq_zero_or_pos m with hm0 | hm0
    ·subst hm0
     have halb : (wo.alloc (.cells #[.pointer (some ⟨sb, 0, none⟩)] 96)).heap[lb]? = _ := (heap_alloc_lt _ (lt_of_heap HVo.out.b)).trans HVo.out.b
     have ALB := Lib.hid halb
     have OWN := Lib.hid (own_eq (w' := wo.alloc (.cells #[.pointer (some ⟨sb, 0, none⟩)] 96)) HOWN.out fun k hk => heap_alloc_lt _ (own_lt HOWN.out hk).2)
     have CN := Lib.hid (show (wo.alloc (.cells #[.pointer (some ⟨sb, 0, none⟩)] 96)).cell? ⟨wo.heap.size, 0, none⟩ = some (.pointer (some ⟨sb, 0, none⟩)) from cell_alloc_new _ _ _ 0)
     have HBO := Lib.hid (show B ≤ wo.heap.size from by have := M3.out.fr.size; have := FO.out.size; omega)
     clear halb
     go_wp2_with (at_builtin; refine wpList_push_seg _ rfl (.tmp 73) (.tmp 75) rfl B (.slice oa2 0 cap2) 0 xs rfl OWN.out wo.heap.size 1 rfl (some ⟨sb, 0, none⟩) CN.out ?len0 ?hB0 ?_)
     case len0 => omega
     case hB0 => have := HBO.out; simp; omega
     intro v3 wa ho3 hg3 hb3
     obtain ⟨oa3, cap3, hv3, hoa3, hno3⟩ := own_slice ho3
     subst hv3
     have hgne : ∀ k, (Value.slice oa2 0 cap2).ownBlock = some k → k ≠ lb := fun k hk => HVo.out.nb k (.inl ((HVo.out.ow rfl).2 k hk))
     have hlb3 : wa.heap[lb]? = some (lgObj p lim ev db beg (.slice oa2 0 cap2)) := (hg3.block lb (lt_of_heap ALB.out) fun e => hgne lb e.symm rfl).trans ALB.out
     have k5' : wa.cell? ⟨lb, 5, none⟩ = some (.slice oa2 0 cap2) := (cell_of hlb3 5).trans rfl
     have f5' := fz_of hlb3 5
     have hfa : Fr (fun i => i = lb ∨ (Value.slice oa2 0 cap2).ownBlock = some i) wo wa := ((Fr.refl _ wo).alloc _).grown hg3 fun k hk => .inl (.inr hk)
     have hfb : Fr (fun i => i = lb ∨ (Value.slice oa2 0 cap2).ownBlock = some i) wo (wa.setCell ⟨lb, 5, none⟩ (.slice oa3 (0 + 1) cap3)) := hfa.setCell (p := ⟨lb, 5, none⟩) (.inl (.inl rfl)) _
     have hbb2 : (wa.setCell ⟨lb, 5, none⟩ (.slice oa3 (0 + 1) cap3)).heap[lb]? = some (lgObj p lim ev db beg (.slice oa3 (0 + 1) cap3)) := by
      rw [heap_setCell_self hlb3]; rfl
     have hne3 : (Value.slice oa3 (0 + 1) cap3).ownBlock ≠ some lb := fun e => by
      rcases hb3 with h1 | h1
      ·rw [h1] at e; exact hgne lb e rfl
      ·rw [h1] at e
       injection e with e
       have := lt_of_heap ALB.out
       have h9 := lt_of_heap HVo.out.b
       try simp at e
       omega
     have hob : (wa.setCell ⟨lb, 5, none⟩ (.slice oa3 (0 + 1) cap3)).ownsRow B 96 1 (.slice oa3 (0 + 1) cap3) (0 + 1) (xs ++ [.pointer (some ⟨sb, 0, none⟩)]) :=
      own_eq ho3 fun k hk => heap_setCell_ne _ (fun e => hne3 (by rw [hk, e])) _
     have hvb : (Value.slice oa3 (0 + 1) cap3).ownBlock = (Value.slice oa2 0 cap2).ownBlock ∨ ∃ g, (Value.slice oa3 (0 + 1) cap3).ownBlock = some g ∧ wo.heap.size ≤ g ∧ g < (wa.setCell ⟨lb, 5, none⟩ (.slice oa3 (0 + 1) cap3)).heap.size := by
      rcases hb3 with h1 | h1
      ·exact .inl h1
      ·right
       refine ⟨_, h1, by simp, ?_⟩
       exact (own_lt hob h1).2
     clear ho3 hg3 hb3 hoa3 hno3 hfa OWN CN
     have hk7 := HLN.out
     go_wp2_with fail
     have hw5 : ∃ w5, w5 = wa.setCell ⟨lb, 5, none⟩ (.slice oa3 (0 + 1) cap3) := ⟨_, rfl⟩
     obtain ⟨w5, hw5⟩ := hw5
     rw [← hw5] at hfb hbb2 hob hvb ⊢
     obtain ⟨x, hx⟩ : ∃ x : PE, x = ⟨sb, ⟨t.base, ev, t.l⟩, So⟩ := ⟨_, rfl⟩
     have hxs : x.s = t := by rw [hx]; have := HIN.out.evs t (List.mem_of_getElem? HT.out); rw [← this]
     have hx3 : segV x = .pointer (some ⟨sb, 0, none⟩) := by rw [hx]; rfl
     have hstep := M3.out.step (x := x) HIN.out HT.out HNM.out hxs HV3.out HNEW.out FO.out (by rw [hx]; exact SO.out) (by rw [hx]; exact SOL.out) D2.out.1 D2.out.2.1 D2.out.2.2.1 D2.out.2.2.2.1 D2.out.2.2.2.2.1 D2.out.2.2.2.2.2 hfb hbb2 (by
      rw [List.length_append, List.length_singleton, ← HM.out, List.map_append, List.map_singleton, hx3, ← HXS.out]
      exact hob) hvb hB1w (by have := (List.getElem?_eq_some_iff.1 HT.out).1; have := HTL.out; omega)
     have HSTEP := Lib.hid hstep
     clear hstep hfb hbb2 hob hvb hx hxs hx3 k5' f5' hlb3 hne3 hgne k5 hw5
     go_roundw
     case rel => exact ⟨k + 1, es ++ [x], used2, F2, by go_num, hlt, HSTEP.out⟩
     case measure => simp [intOf]; omega
    ·have hidx : ((m : Nat) : Int) - 1 = ((m - 1 : Nat) : Int) := by omega
     have hgt : (0 : Int) < (m : Int) := by omega
     obtain ⟨y, hy⟩ := get_of_lt (l := es) (k := m - 1) (by have := HM.out; omega)
     obtain ⟨a2, ha2, hc2, -⟩ := HRD.out _ y hy
     subst ha2
     unfold segV at hc2
     have HE := Lib.hid (send_walk (HVo.out.sg y (List.mem_of_getElem? hy)))
     have hyt : ts[m - 1]? = some y.s := by
      have h1 : (segsOf es)[m - 1]? = some y.s := by unfold segsOf; rw [List.getElem?_map, hy]; rfl
      rw [M3.out.sg, List.getElem?_take_of_lt (by have := HM.out; omega)] at h1
      exact h1
     have hlow : ¬ (t.base : Int) < y.s.end' := by
      have h1 := List.pairwise_iff_getElem.1 HIN.out.rise (m - 1) es.length (List.getElem?_eq_some_iff.1 hyt).1 (List.getElem?_eq_some_iff.1 HT.out).1 (by have := HM.out; omega)
      rw [(List.getElem?_eq_some_iff.1 hyt).2, (List.getElem?_eq_some_iff.1 HT.out).2] at h1
      omega
     have HHY := Lib.hid (And.intro hy hyt)
     clear hy hyt
     go_wp2_with fail
     refine HE.out.mono ?_
     rintro e w9 ⟨rfl, rfl⟩
     clear hc2 HE
     have halb : (wo.alloc (.cells #[.pointer (some ⟨sb, 0, none⟩)] 96)).heap[lb]? = _ := (heap_alloc_lt _ (lt_of_heap HVo.out.b)).trans HVo.out.b
     have ALB := Lib.hid halb
     have OWN := Lib.hid (own_eq (w' := wo.alloc (.cells #[.pointer (some ⟨sb, 0, none⟩)] 96)) HOWN.out fun k hk => heap_alloc_lt _ (own_lt HOWN.out hk).2)
     have CN := Lib.hid (show (wo.alloc (.cells #[.pointer (some ⟨sb, 0, none⟩)] 96)).cell? ⟨wo.heap.size, 0, none⟩ = some (.pointer (some ⟨sb, 0, none⟩)) from cell_alloc_new _ _ _ 0)
     have HBO := Lib.hid (show B ≤ wo.heap.size from by have := M3.out.fr.size; have := FO.out.size; omega)
     clear halb
     go_wp2_with (at_builtin; refine wpList_push_seg _ rfl (.tmp 73) (.tmp 75) rfl B (.slice (some a2) m cap2) m xs rfl OWN.out wo.heap.size 1 rfl (some ⟨sb, 0, none⟩) CN.out ?len1 ?hB1 ?_)
     case len1 => omega
     case hB1 => have := HBO.out; simp; omega
     intro v3 wa ho3 hg3 hb3
     obtain ⟨oa3, cap3, hv3, hoa3, hno3⟩ := own_slice ho3
     subst hv3
     have hgne : ∀ k, (Value.slice (some a2) m cap2).ownBlock = some k → k ≠ lb := fun k hk => HVo.out.nb k (.inl ((HVo.out.ow rfl).2 k hk))
     have hlb3 : wa.heap[lb]? = some (lgObj p lim ev db beg (.slice (some a2) m cap2)) := (hg3.block lb (lt_of_heap ALB.out) fun e => hgne lb e.symm rfl).trans ALB.out
     have k5' : wa.cell? ⟨lb, 5, none⟩ = some (.slice (some a2) m cap2) := (cell_of hlb3 5).trans rfl
     have f5' := fz_of hlb3 5
     have hfa : Fr (fun i => i = lb ∨ (Value.slice (some a2) m cap2).ownBlock = some i) wo wa := ((Fr.refl _ wo).alloc _).grown hg3 fun k hk => .inl (.inr hk)
     have hfb : Fr (fun i => i = lb ∨ (Value.slice (some a2) m cap2).ownBlock = some i) wo (wa.setCell ⟨lb, 5, none⟩ (.slice oa3 (m + 1) cap3)) := hfa.setCell (p := ⟨lb, 5, none⟩) (.inl (.inl rfl)) _
     have hbb2 : (wa.setCell ⟨lb, 5, none⟩ (.slice oa3 (m + 1) cap3)).heap[lb]? = some (lgObj p lim ev db beg (.slice oa3 (m + 1) cap3)) := by
      rw [heap_setCell_self hlb3]; rfl
     have hne3 : (Value.slice oa3 (m + 1) cap3).ownBlock ≠ some lb := fun e => by
      rcases hb3 with h1 | h1
      ·rw [h1] at e; exact hgne lb e rfl
      ·rw [h1] at e
       injection e with e
       have := lt_of_heap ALB.out
       have h9 := lt_of_heap HVo.out.b
       try simp at e
       omega
     have hob : (wa.setCell ⟨lb, 5, none⟩ (.slice oa3 (m + 1) cap3)).ownsRow B 96 1 (.slice oa3 (m + 1) cap3) (m + 1) (xs ++ [.pointer (some ⟨sb, 0, none⟩)]) :=
      own_eq ho3 fun k hk => heap_setCell_ne _ (fun e => hne3 (by rw [hk, e])) _
     have hvb : (Value.slice oa3 (m + 1) cap3).ownBlock = (Value.slice (some a2) m cap2).ownBlock ∨ ∃ g, (Value.slice oa3 (m + 1) cap3).ownBlock = some g ∧ wo.heap.size ≤ g ∧ g < (wa.setCell ⟨lb, 5, none⟩ (.slice oa3 (m + 1) cap3)).heap.size := by
      rcases hb3 with h1 | h1
      ·exact .inl h1
      ·right
       refine ⟨_, h1, by simp, ?_⟩
       exact (own_lt hob h1).2
     clear ho3 hg3 hb3 hoa3 hno3 hfa OWN CN
     have hk7 := HLN.out
     go_wp2_with fail
     have hw5 : ∃ w5, w5 = wa.setCell ⟨lb, 5, none⟩ (.slice oa3 (m + 1) cap3) := ⟨_, rfl⟩
     obtain ⟨w5, hw5⟩ := hw5
     rw [← hw5] at hfb hbb2 hob hvb ⊢
     obtain ⟨x, hx⟩ : ∃ x : PE, x = ⟨sb, ⟨t.base, ev, t.l⟩, So⟩ := ⟨_, rfl⟩
     have hxs : x.s = t := by rw [hx]; have := HIN.out.evs t (List.mem_of_getElem? HT.out); rw [← this]
     have hx3 : segV x = .pointer (some ⟨sb, 0, none⟩) := by rw [hx]; rfl
     have hstep := M3.out.step (x := x) HIN.out HT.out HNM.out hxs HV3.out HNEW.out FO.out (by rw [hx]; exact SO.out) (by rw [hx]; exact SOL.out) D2.out.1 D2.out.2.1 D2.out.2.2.1 D2.out.2.2.2.1 D2.out.2.2.2.2.1 D2.out.2.2.2.2.2 hfb hbb2 (by
      rw [List.length_append, List.length_singleton, ← HM.out, List.map_append, List.map_singleton, hx3, ← HXS.out]
      exact hob) hvb hB1w (by have := (List.getElem?_eq_some_iff.1 HT.out).1; have := HTL.out; omega)
     have HSTEP := Lib.hid hstep
     clear hstep hfb hbb2 hob hvb hx hxs hx3 k5' f5' hlb3 hne3 hgne k5 hw5
     go_roundw
     case rel => exact ⟨k + 1, es ++ [x], used2, F2, by go_num, hlt, HSTEP.out⟩
     case measure => simp [intOf]; omega
end
end Go.Proofs.YtdlnafhhkpklmaaGreatDoor
/- A log is opened: what it stands on; its small closures. -/
namespace Go.Proofs.YtdlnafhhkpklmaaGreatDoor
open Go.RowKit Go.Fm Go.BigFrame Go.Shelf Go.Maps
set_option linter.unusedVariables false
set_option linter.unusedSimpArgs false
set_option maxRecDepth 100000
section
variable {B : Nat} {w w' w1 w2 w3 wr : World} {lb db mb : Nat} {p : ByteArray} {lim ev : Nat} {beg : Int} {es es' : List PE} {own own' : Bool} {L L' : List Row} {S S' : Nat → Prop} {room used fuse used' fuse' used2 : Int} {F F' F2 : ByteArray → ByteArray × Nat} {G : Nat → Prop} {n j k : Nat} {ts : List Seg} {N : List ByteArray}
theorem OpIn.del (h : OpIn p ev ts L F) {nm : ByteArray} (hn : isOwn p nm = false) : OpIn p ev ts (delL L nm) F := by
 have hne : ∀ t : Seg, nmS p t.base ≠ nm := fun t e => by
  have h1 := nmS_pre p t.base
  rw [e] at h1
  unfold isOwn at hn
  rw [hn] at h1
  cases h1
 refine ⟨fun x h1 h2 => ?_, fun t ht => by rw [getL_del, if_neg (hne t)]; exact h.has t ht, h.scan, h.rise, h.bb, h.len, h.full, h.evs⟩
 rw [getL_del] at h1
 split at h1
 ·cases h1
 ·exact h.own x h1 h2
theorem del_none {nm : ByteArray} (h : getL L nm = none) : delL L nm = L := by
 unfold delL
 refine List.filter_eq_self.2 fun r hr => ?_
 simp only [decide_eq_true_eq, ne_eq]
 intro e
 have : (getL L nm).isSome = true := getL_in.2 (List.mem_map.2 ⟨r, hr, e⟩)
 rw [h] at this
 cases this
/-- The disk alone: sound, and its numbers. -/
structure DkN (w : World) (db mb : Nat) (room used : Int) (L : List Row) (F : ByteArray → ByteArray × Nat) : Prop where
 dk : Dk w db mb room used (-1) L F
 ok : DkOK room used (-1) L F
 us : used = usd L F
 ur : used ≤ room
theorem DkN.fr {R : Nat → Prop} (h : DkN w db mb room used L F) (hf : Fr R w w') (hS : ∀ i, DkS db mb L i → ¬ R i) : DkN w' db mb room used L F := ⟨h.dk.fr hf hS, h.ok, h.us, h.ur⟩
theorem DkN.old (h : DkN w db mb room used L F) (hf : Fr (fun _ => False) w w') : DkN w' db mb room used L F := h.fr hf fun _ _ h => h
theorem ldrop_n (hc : w.cell? ⟨lb, 3, none⟩ = some (.pointer (some ⟨db, 0, none⟩))) (h : DkN w db mb room used L F) (nm : ByteArray) (h2 : nm.size ≤ 40) :
  Calls Tryz.prog 42 #[.pointer (some ⟨lb, 0, none⟩), .string nm] w fun e w' => e = .returned (.int .i64 0) ∧ ∃ used2, DkN w' db mb room used2 (delL L nm) F ∧ used2 ≤ used ∧ Fr (DkS db mb L) w w' := by
 refine (ldrop_walk hc h.dk h.ok nm h2).mono ?_
 rintro e w1 ⟨rfl, hok, hno⟩
 cases hg : getL L nm with
 | none =>
  have hcode : synCode (-1) L nm = 6 := by unfold synCode; rw [if_neg (by decide), hg]; rfl
  rw [hcode] at hok hno ⊢
  have hf := hno (by decide)
  rw [del_none hg]
  exact ⟨rfl, used, h.old hf, Int.le_refl _, hf.mono fun i h => h.elim⟩
 | some fb =>
  have hcode : synCode (-1) L nm = 0 := by unfold synCode; rw [if_neg (by decide), hg]; rfl
  rw [hcode] at hok hno ⊢
  obtain ⟨hd, hf⟩ := hok rfl
  have hu := usd_del (F := F) (nm := nm) h.dk.m.1.nodup ⟨_, getL_some hg, rfl⟩
  have h3 := h.us
  have h4 := h.ok.u0
  have h5 := h.ok.u1
  have h6 := h.ur
  refine ⟨rfl, _, ⟨hd, ⟨by omega, by omega, h.ok.fw, fun r hr => h.ok.fs r (del_mem hr).1⟩, by omega, by omega⟩, by omega, hf⟩
theorem RdM.logD (M : RdM B w lb db mb p lim ev beg ts L room F N k es used F' wr) (hlen : es.length = ts.length) (h : OpIn p ev ts L F) (hs : (getL L (startS p) = none ∧ beg = 0) ∨ ((getL L (startS p)).isSome = true ∧ F (startS p) = (fix8 beg.toNat, 8)))
  (hrm : room ≤ 4194304) (hdl : ∀ i, DkS db mb L i → B ≤ i) (hB : 1 ≤ B) (hL : L.length ≤ n) (hE : ts.length ≤ n) (hb : (catL ts).length ≤ n) (hn : n ≤ 700) (hbe : beg ≤ ssEnd beg ts) :
  ∃ S, LogD B wr lb db mb p lim ev beg es true L S room used (-1) F' n ∧ LastSafeE p es L F' ∧ segsOf es = ts ∧ ∀ i, S i → i = lb ∨ w.heap.size ≤ i := by
 have hsg : segsOf es = ts := by rw [M.sg, hlen, List.take_length]
 obtain ⟨sv, G, hV, hnew⟩ := M.lg
 have hcf : ∀ t ∈ ts, curF L F' (nmS p t.base) = (catB t.l, (catB t.l).size) := fun t ht => by
  obtain ⟨fb, hg⟩ := Option.isSome_iff_exists.1 (h.has t ht)
  rw [curF_some hg]
  obtain ⟨i, hi, e⟩ := List.getElem_of_mem ht
  exact M.dn i t (by omega) (by rw [List.getElem?_eq_getElem hi, e])
 have hst : F' (startS p) = F (startS p) := M.rs _ fun i t _ _ => start_ne p t.base
 refine ⟨_, ⟨⟨sv, G, hV, fun i => Iff.rfl⟩, M.dk, M.ok, M.us, M.ur, hrm, ?_, hdl, hB, hL, by omega, by rw [hsg]; exact hb, hn, ?_⟩, fun s hs => ?_, hsg, fun i hi => ?_⟩
 ·rw [hsg]
  exact ⟨fun t ht => by rw [hcf t ht], fun t ht => hcf t ((List.dropLast_sublist _).subset ht), fun nm h1 h2 => h.own nm h1 h2, by rw [hst]; exact hs, h.rise, h.bb, h.full⟩
 ·rw [← ssEnd_map]
  show beg ≤ ssEnd beg (segsOf es)
  rw [hsg]
  exact hbe
 ·rw [hsg] at hs
  exact hcf s (List.mem_of_getLast? hs)
 ·rcases hi with hi | hi | hi
  ·exact .inl hi
  ·exact .inr (hnew i (.inl hi))
  ·exact .inr (hnew i (.inr hi))
/-- The closures of Open that drop a file. -/
def DropDo (w : World) (db mb : Nat) (room used : Int) (L : List Row) (F : ByteArray → ByteArray × Nat) (nm : ByteArray) (e : Ending) (w' : World) : Prop := e = .returned (.int .i64 0) ∧ ∃ used2, DkN w' db mb room used2 (delL L nm) F ∧ used2 ≤ used ∧ Fr (DkS db mb L) w w'
theorem open_fresh {a6 a3 : Nat} (h6 : w.cell? ⟨a6, 0, none⟩ = some (.pointer (some ⟨lb, 0, none⟩))) (h30 : w.cell? ⟨a3, 0, none⟩ = some (.string p)) (h31 : w.cell? ⟨a3, 1, none⟩ = some (.int .i64 lim)) (h32 : w.cell? ⟨a3, 2, none⟩ = some (.int .i64 ev))
  (hc : w.cell? ⟨lb, 3, none⟩ = some (.pointer (some ⟨db, 0, none⟩))) (h : DkN w db mb room used L F) (hp : p.size ≤ 20) :
  Calls Tryz.prog 41 #[.pointer (some ⟨a6, 0, none⟩), .pointer (some ⟨a3, 0, none⟩)] w (DropDo w db mb room used L F (freshS p)) := by
 have z6 : ∀ y : Lcl.InS (fun w' => Fr (fun _ => False) w w'), y.w.cell? ⟨a6, 0, none⟩ = some (.pointer (some ⟨lb, 0, none⟩)) := fun y => y.h.cel h6
 have z30 : ∀ y : Lcl.InS (fun w' => Fr (fun _ => False) w w'), y.w.cell? ⟨a3, 0, none⟩ = some (.string p) := fun y => y.h.cel h30
 have z31 : ∀ y : Lcl.InS (fun w' => Fr (fun _ => False) w w'), y.w.cell? ⟨a3, 1, none⟩ = some (.int .i64 lim) := fun y => y.h.cel h31
 have z32 : ∀ y : Lcl.InS (fun w' => Fr (fun _ => False) w w'), y.w.cell? ⟨a3, 2, none⟩ = some (.int .i64 ev) := fun y => y.h.cel h32
 have hfw := fresh_walk p lim ev w.drew hp
 unfold cfgV at hfw
 have HFW := Lib.hid hfw
 have H := Lib.hid h
 have HC := Lib.hid hc
 have hsz := freshS_size p
 clear hfw h hc h6 h30 h31 h32
 unfold DropDo
 go_enter Tryz.func41, Tryz.ntmps41
 go_wp2_with fail
 refine Lcl.wp_region_calm (by kernel_rfl) [(false, [0, 1])] #[0, 0, 2, 7, 15] [0, 1, 2] 3 #[true, true, false, false, false] (by kernel_rfl) (by kernel_rfl) (by kernel_rfl) (fun w' => Fr (fun _ => False) w w') (Fr.same w).drew (fun d c a v w h => by cases d <;> exact h) ?_
 simp only [Lcl.opsOf, List.map_cons, List.map_nil, List.getElem?_toArray, List.getElem?_cons_succ, List.getElem?_cons_zero, Option.getD_some]
 refine Lcl.wpCalm_f ?_
 repeat (go_big_quiet_step (rfl))
 refine wpQuiet_nil ?_
 refine Lcl.wpCalm_nil ?_
 clear z6 z30 z31 z32
 refine Lcl.wpG_one 2 rfl (by kernel_rfl) ?_
 go_wp2_with fail
 refine HFW.out.mono ?_
 rintro e w1 ⟨rfl, hf⟩
 have Q1 := Lib.hid ((Fr.same w).drew.tr hf)
 have HD := Lib.hid (ldrop_n (Q1.out.cel HC.out) (H.out.old Q1.out) (freshS p) (by omega))
 clear hf HFW
 go_wp2_with fail
 refine ⟨fun _ _ => Q1.out, ?_⟩
 refine Lcl.wpG_one 3 rfl (by kernel_rfl) ?_
 go_wp2_with fail
 refine HD.out.mono ?_
 rintro e w2 ⟨rfl, used2, h1, h2, h3⟩
 have R := Lib.hid (show DkN w2 db mb room used2 (delL L (freshS p)) F ∧ used2 ≤ used ∧ Fr (DkS db mb L) w w2 from ⟨h1, h2, (Q1.out.mono (S' := DkS db mb L) fun i h => h.elim).trans h3 fun i h => .inl h⟩)
 clear h1 h2 h3 HD
 go_wp2_with fail
 refine ⟨fun h => absurd h (by decide), ?_⟩
 refine Lcl.wpG_run [4] _ _ _ (by kernel_rfl) ?_
 simp only [List.map_cons, List.map_nil, List.getElem?_toArray, List.getElem?_cons_succ, List.getElem?_cons_zero, Option.getD_some]
 go_wp2_with fail
 go_ret
 exact ⟨rfl, used2, R.out⟩
theorem open_swap {a6 a3 : Nat} (h6 : w.cell? ⟨a6, 0, none⟩ = some (.pointer (some ⟨lb, 0, none⟩))) (h30 : w.cell? ⟨a3, 0, none⟩ = some (.string p)) (h31 : w.cell? ⟨a3, 1, none⟩ = some (.int .i64 lim)) (h32 : w.cell? ⟨a3, 2, none⟩ = some (.int .i64 ev))
  (hc : w.cell? ⟨lb, 3, none⟩ = some (.pointer (some ⟨db, 0, none⟩))) (h : DkN w db mb room used L F) (hp : p.size ≤ 20) :
  Calls Tryz.prog 44 #[.pointer (some ⟨a6, 0, none⟩), .pointer (some ⟨a3, 0, none⟩)] w (DropDo w db mb room used L F (swapS p)) := by
 have z6 : ∀ y : Lcl.InS (fun w' => Fr (fun _ => False) w w'), y.w.cell? ⟨a6, 0, none⟩ = some (.pointer (some ⟨lb, 0, none⟩)) := fun y => y.h.cel h6
 have z30 : ∀ y : Lcl.InS (fun w' => Fr (fun _ => False) w w'), y.w.cell? ⟨a3, 0, none⟩ = some (.string p) := fun y => y.h.cel h30
 have z31 : ∀ y : Lcl.InS (fun w' => Fr (fun _ => False) w w'), y.w.cell? ⟨a3, 1, none⟩ = some (.int .i64 lim) := fun y => y.h.cel h31
 have z32 : ∀ y : Lcl.InS (fun w' => Fr (fun _ => False) w w'), y.w.cell? ⟨a3, 2, none⟩ = some (.int .i64 ev) := fun y => y.h.cel h32
 have hfw := swap_walk p lim ev w.drew hp
 unfold cfgV at hfw
 have HFW := Lib.hid hfw
 have H := Lib.hid h
 have HC := Lib.hid hc
 have hsz := swapS_size p
 clear hfw h hc h6 h30 h31 h32
 unfold DropDo
 go_enter Tryz.func44, Tryz.ntmps44
 go_wp2_with fail
 refine Lcl.wp_region_calm (by kernel_rfl) [(false, [0, 1])] #[0, 0, 2, 7, 15] [0, 1, 2] 3 #[true, true, false, false, false] (by kernel_rfl) (by kernel_rfl) (by kernel_rfl) (fun w' => Fr (fun _ => False) w w') (Fr.same w).drew (fun d c a v w h => by cases d <;> exact h) ?_
 simp only [Lcl.opsOf, List.map_cons, List.map_nil, List.getElem?_toArray, List.getElem?_cons_succ, List.getElem?_cons_zero, Option.getD_some]
 refine Lcl.wpCalm_f ?_
 repeat (go_big_quiet_step (rfl))
 refine wpQuiet_nil ?_
 refine Lcl.wpCalm_nil ?_
 clear z6 z30 z31 z32
 refine Lcl.wpG_one 2 rfl (by kernel_rfl) ?_
 go_wp2_with fail
 refine HFW.out.mono ?_
 rintro e w1 ⟨rfl, hf⟩
 have Q1 := Lib.hid ((Fr.same w).drew.tr hf)
 have HD := Lib.hid (ldrop_n (Q1.out.cel HC.out) (H.out.old Q1.out) (swapS p) (by omega))
 clear hf HFW
 go_wp2_with fail
 refine ⟨fun _ _ => Q1.out, ?_⟩
 refine Lcl.wpG_one 3 rfl (by kernel_rfl) ?_
 go_wp2_with fail
 refine HD.out.mono ?_
 rintro e w2 ⟨rfl, used2, h1, h2, h3⟩
 have R := Lib.hid (show DkN w2 db mb room used2 (delL L (swapS p)) F ∧ used2 ≤ used ∧ Fr (DkS db mb L) w w2 from ⟨h1, h2, (Q1.out.mono (S' := DkS db mb L) fun i h => h.elim).trans h3 fun i h => .inl h⟩)
 clear h1 h2 h3 HD
 go_wp2_with fail
 refine ⟨fun h => absurd h (by decide), ?_⟩
 refine Lcl.wpG_run [4] _ _ _ (by kernel_rfl) ?_
 simp only [List.map_cons, List.map_nil, List.getElem?_toArray, List.getElem?_cons_succ, List.getElem?_cons_zero, Option.getD_some]
 go_wp2_with fail
 go_ret
 exact ⟨rfl, used2, R.out⟩
end
end Go.Proofs.YtdlnafhhkpklmaaGreatDoor
/- A log is opened: the walk. -/
namespace Go.Proofs.YtdlnafhhkpklmaaGreatDoor
open Go.RowKit Go.Fm Go.BigFrame Go.Shelf Go.Maps
set_option linter.unusedVariables false
set_option linter.unusedSimpArgs false
set_option maxRecDepth 100000
section
variable {B : Nat} {w w' w1 w2 w3 wr : World} {lb db mb : Nat} {p : ByteArray} {lim ev : Nat} {beg : Int} {es es' : List PE} {own own' : Bool} {L L' : List Row} {S S' : Nat → Prop} {room used fuse used' fuse' used2 : Int} {F F' F2 : ByteArray → ByteArray × Nat} {G : Nat → Prop} {n j k : Nat} {ts : List Seg} {N : List ByteArray}
structure OpenIn (B : Nat) (w : World) (db mb : Nat) (p : ByteArray) (lim ev : Nat) (beg : Int) (ts : List Seg) (L : List Row) (room used : Int) (F : ByteArray → ByteArray × Nat) (n : Nat) : Prop where
 d : DkN w db mb room used L F
 rm : room ≤ 4194304
 i : OpIn p ev ts L F
 st : (getL L (startS p) = none ∧ beg = 0) ∨ ((getL L (startS p)).isSome = true ∧ F (startS p) = (fix8 beg.toNat, 8))
 b0 : 0 ≤ beg
 b1 : beg ≤ 1099511627776
 be : beg ≤ ssEnd beg ts
 dl : ∀ i, DkS db mb L i → B ≤ i
 hB1 : 1 ≤ B
 nL : L.length ≤ n
 nE : ts.length ≤ n
 nB : (catL ts).length ≤ n
 n1 : n ≤ 700
 p1 : 1 ≤ p.size
 p2 : p.size ≤ 20
 l1 : 50 ≤ lim
 l2 : lim ≤ 1000000
 e1 : 1 ≤ ev
 e2 : ev ≤ 1000000
 so : StepsOK w
def OpenOut (B : Nat) (w : World) (db mb : Nat) (p : ByteArray) (lim ev : Nat) (beg : Int) (ts : List Seg) (L : List Row) (room used : Int) (F : ByteArray → ByteArray × Nat) (n : Nat) (e : Ending) (w' : World) : Prop :=
 ∃ (lb j : Nat) (es : List PE) (own' : Bool) (L' : List Row) (S' : Nat → Prop) (used' : Int) (F' : ByteArray → ByteArray × Nat), e = .returned (.tuple #[.pointer (some ⟨lb, 0, none⟩), .int .i64 0]) ∧ LogD B w' lb db mb p lim ev beg (es.drop j) own' L' S' room used' (-1) F' n ∧ segsOf es = ts ∧ j = trimN beg ts ∧ (j = 0 → own' = true) ∧
  LastSafeE p (es.drop j) L' F' ∧ Others p L F L' F' ∧ (∀ i, S' i → w.heap.size ≤ i) ∧ (∀ i, DkS db mb L' i → DkS db mb L i) ∧ Fr (DkS db mb L) w w'
theorem LgV.nil (hb : w.heap[lb]? = some (lgObj p lim ev db beg (.slice none 0 0))) (hB : B ≤ lb) (hap : ¬ DkS db mb L lb) (p1 : 1 ≤ p.size) (p2 : p.size ≤ 20) (l1 : 50 ≤ lim) (l2 : lim ≤ 1000000) (e1 : 1 ≤ ev) (e2 : ev ≤ 1000000) (b0 : 0 ≤ beg) (b1 : beg ≤ 1099511627776) :
  LgV B w lb db mb p lim ev beg [] true L (.slice none 0 0) (fun _ => False) := by
 have hno : ∀ i, (False ∨ ∃ e ∈ ([] : List PE), e.S i) → False := fun i hi => hi.elim id fun ⟨e, he, _⟩ => (by cases he)
 have hf : ∀ i, lgFoot lb (fun _ => False) [] i → i = lb := fun i hi => hi.elim id fun h => (hno i h).elim
 refine ⟨hb, ⟨none, 0, rfl, Nat.le_refl _, by unfold maxLen; omega, fun k e he => (by cases he)⟩, fun _ => ⟨World.ownsRow_nil _ _ _ _, fun g hg => (by cases hg)⟩, fun e he => (by cases he), fun i hi => ?_, fun i hi => ?_, fun i hi => (hno i hi).elim, fun i hi => hi.elim, .nil, p1, p2, l1, l2, e1, e2, b0, by omega, by simp, fun e he => (by cases he)⟩
 ·rw [hf i hi]; exact ⟨hB, lt_of_heap hb⟩
 ·rw [hf i hi]; exact hap
def OpSt (B : Nat) (wA : World) (lb db mb : Nat) (p : ByteArray) (lim ev : Nat) (beg : Int) (ts : List Seg) (L : List Row) (room used : Int) (F : ByteArray → ByteArray × Nat) (n : Nat) : Nat → World → Prop
 | 0, w' => Fr (fun _ => False) wA w'
 | 1, w' => w'.heap[lb]? = some (lgObj p lim ev db beg (.slice none 0 0)) ∧ DkN w' db mb room used L F ∧ Fr (fun i => i = lb ∨ DkS db mb L i) wA w'
 | 2, w' => ∃ used2, w'.heap[lb]? = some (lgObj p lim ev db beg (.slice none 0 0)) ∧ DkN w' db mb room used2 (delL L (freshS p)) F ∧ Fr (fun i => i = lb ∨ DkS db mb L i) wA w'
 | 3, w' => ∃ used2, w'.heap[lb]? = some (lgObj p lim ev db beg (.slice none 0 0)) ∧ DkN w' db mb room used2 (delL (delL L (freshS p)) (swapS p)) F ∧ Fr (fun i => i = lb ∨ DkS db mb L i) wA w'
 | 4, w' => ∃ es S used' F', LogD B w' lb db mb p lim ev beg es true (delL (delL L (freshS p)) (swapS p)) S room used' (-1) F' n ∧ LastSafeE p es (delL (delL L (freshS p)) (swapS p)) F' ∧ segsOf es = ts ∧ (∀ i, S i → i = lb ∨ wA.heap.size ≤ i) ∧ (∀ x, ¬ mine p x → F' x = F x) ∧ Fr (fun i => i = lb ∨ DkS db mb L i) wA w'
 | _, w' => ∃ (j : Nat) (es : List PE) (own' : Bool) (L' : List Row) (S' : Nat → Prop) (used' : Int) (F' : ByteArray → ByteArray × Nat), LogD B w' lb db mb p lim ev beg (es.drop j) own' L' S' room used' (-1) F' n ∧ segsOf es = ts ∧ j = trimN beg ts ∧ (j = 0 → own' = true) ∧
  LastSafeE p (es.drop j) L' F' ∧ Others p L F L' F' ∧ (∀ i, S' i → i = lb ∨ wA.heap.size ≤ i) ∧ (∀ i, DkS db mb L' i → DkS db mb L i) ∧ Fr (fun i => i = lb ∨ DkS db mb L i) wA w'
theorem OpSt.fr {wA : World} : ∀ {k : Nat}, OpSt B wA lb db mb p lim ev beg ts L room used F n k w' → Fr (fun i => i = lb ∨ DkS db mb L i) wA w'
 | 0, h => Fr.mono h fun i h => h.elim
 | 1, h => h.2.2
 | 2, ⟨_, h⟩ => h.2.2
 | 3, ⟨_, h⟩ => h.2.2
 | 4, ⟨_, _, _, _, h⟩ => h.2.2.2.2.2
 | _ + 5, ⟨_, _, _, _, _, _, _, h⟩ => h.2.2.2.2.2.2.2.2
theorem fresh_mine (p : ByteArray) : mine p (freshS p) := .inr (.inr (.inl rfl))
theorem swap_mine (p : ByteArray) : mine p (swapS p) := .inr (.inr (.inr rfl))
theorem start_fresh (p : ByteArray) : startS p ≠ freshS p := fun e => by have := congrArg ByteArray.size e; rw [startS_size, freshS_size] at this; omega
theorem start_swap (p : ByteArray) : startS p ≠ swapS p := fun e => by have := congrArg ByteArray.size e; rw [startS_size, swapS_size] at this; omega
theorem others_del' {nm : ByteArray} (h : mine p nm) : Others p L F (delL L nm) F := fun x hx => ⟨by rw [getL_del, if_neg (fun e : x = nm => hx (by rw [e]; exact h))], rfl⟩
set_option maxHeartbeats 16000000 in
theorem popen_all {wA : World} {a6 a3 g : Nat} (O : OpenIn B wA db mb p lim ev beg ts L room used F n) (hb : wA.heap[lb]? = some (lgObj p lim ev db 0 (.slice none 0 0))) (hBl : B ≤ lb) (hlD : ¬ DkS db mb L lb)
  (h6 : wA.cell? ⟨a6, 0, none⟩ = some (.pointer (some ⟨lb, 0, none⟩))) (h30 : wA.cell? ⟨a3, 0, none⟩ = some (.string p)) (h31 : wA.cell? ⟨a3, 1, none⟩ = some (.int .i64 lim)) (h32 : wA.cell? ⟨a3, 2, none⟩ = some (.int .i64 ev))
  (n6 : ¬ (a6 = lb ∨ DkS db mb L a6)) (n3 : ¬ (a3 = lb ∨ DkS db mb L a3)) (ng : ¬ (g = lb ∨ DkS db mb L g))
  (hg : ∀ k d, ([⟨40, [.pointer (some ⟨lb, 0, none⟩)], []⟩, ⟨41, [], [.pointer (some ⟨a6, 0, none⟩), .pointer (some ⟨a3, 0, none⟩)]⟩, ⟨44, [], [.pointer (some ⟨a6, 0, none⟩), .pointer (some ⟨a3, 0, none⟩)]⟩, ⟨46, [.pointer (some ⟨lb, 0, none⟩)], []⟩, ⟨47, [.pointer (some ⟨lb, 0, none⟩)], []⟩] : List Doing)[k]? = some d → wA.cell? ⟨g, k, none⟩ = some d.v) :
  Calls Tryz.prog 39 #[.slice (some ⟨g, 0, none⟩) 5 5] wA fun e w' => e = .returned (.int .i64 0) ∧ OpSt B wA lb db mb p lim ev beg ts L room used F n 5 w' := by
 refine (all_walk [⟨40, [.pointer (some ⟨lb, 0, none⟩)], []⟩, ⟨41, [], [.pointer (some ⟨a6, 0, none⟩), .pointer (some ⟨a3, 0, none⟩)]⟩, ⟨44, [], [.pointer (some ⟨a6, 0, none⟩), .pointer (some ⟨a3, 0, none⟩)]⟩, ⟨46, [.pointer (some ⟨lb, 0, none⟩)], []⟩, ⟨47, [.pointer (some ⟨lb, 0, none⟩)], []⟩] g 5
  (OpSt B wA lb db mb p lim ev beg ts L room used F n) (fun _ _ => False) wA (by simp) ?_ ?_ ?_ (Fr.same _)).mono ?_
 rotate_right
 ·rintro e w' (⟨rfl, h⟩ | ⟨c, -, -, h⟩)
  ·exact ⟨rfl, h⟩
  ·exact h.elim
 ·intro d hd args w
  simp only [List.mem_cons, List.not_mem_nil, or_false] at hd
  rcases hd with rfl | rfl | rfl | rfl | rfl <;> rfl
 ·intro k d hk w' hs
  exact hs.fr.cell (hg k d hk) ng
 ·intro k d hk w' hs
  rcases k with _ | _ | _ | _ | _ | k
  ·obtain rfl : d = _ := by simpa using hk.symm
   have hs' : Fr (fun _ => False) wA w' := hs
   have hb' := (hs'.block _ (lt_of_heap hb) fun h => h).trans hb
   rcases O.st with ⟨h1, h2⟩ | ⟨h1, h2⟩
   ·refine (rdstart_none hb' (O.d.old hs').dk (by decide) O.p2 h1).mono ?_
    rintro e w2 ⟨rfl, hf⟩
    refine ⟨0, rfl, fun _ => ⟨?_, (O.d.old hs').old hf, (hs'.tr hf).mono fun i h => h.elim⟩, fun h => absurd rfl h⟩
    rw [h2]
    exact (hf.block _ (lt_of_heap hb') fun h => h).trans hb'
   ·have hbn : (beg.toNat : Int) = beg := Int.toNat_of_nonneg O.b0
    refine (rdstart_some hb' (O.d.old hs').dk (by decide) O.p2 h1 beg.toNat (by have := O.b1; omega) (by rw [h2])).mono ?_
    rintro e w2 ⟨rfl, hb2, hf⟩
    rw [hbn] at hb2
    exact ⟨0, rfl, fun _ => ⟨hb2, (O.d.old hs').fr hf fun i hi e => hlD (e ▸ hi), (hs'.mono (S' := fun i => i = lb ∨ DkS db mb L i) fun i h => h.elim).trans hf fun i h => .inl (.inl h)⟩, fun h => absurd rfl h⟩
  ·obtain rfl : d = _ := by simpa using hk.symm
   obtain ⟨hb1, hd1, hf1⟩ := hs
   refine (open_fresh (hf1.cell h6 n6) (hf1.cell h30 n3) (hf1.cell h31 n3) (hf1.cell h32 n3) ((cell_of hb1 3).trans rfl) hd1 O.p2).mono ?_
   rintro e w2 ⟨rfl, used2, hd2, -, hf2⟩
   exact ⟨0, rfl, fun _ => ⟨used2, (hf2.block _ (lt_of_heap hb1) hlD).trans hb1, hd2, hf1.trans hf2 fun i h => .inl (.inr h)⟩, fun h => absurd rfl h⟩
  ·obtain rfl : d = _ := by simpa using hk.symm
   obtain ⟨u2, hb1, hd1, hf1⟩ := hs
   refine (open_swap (hf1.cell h6 n6) (hf1.cell h30 n3) (hf1.cell h31 n3) (hf1.cell h32 n3) ((cell_of hb1 3).trans rfl) hd1 O.p2).mono ?_
   rintro e w2 ⟨rfl, used2, hd2, -, hf2⟩
   exact ⟨0, rfl, fun _ => ⟨used2, (hf2.block _ (lt_of_heap hb1) fun h => hlD h.del).trans hb1, hd2, hf1.trans hf2 fun i h => .inl (.inr h.del)⟩, fun h => absurd rfl h⟩
  ·obtain rfl : d = _ := by simpa using hk.symm
   obtain ⟨u2, hb1, hd1, hf1⟩ := hs
   have hi3 := (O.i.del (fresh_pre p)).del (swap_pre p)
   have hl3 : ∀ i, DkS db mb (delL (delL L (freshS p)) (swapS p)) i → DkS db mb L i := fun i h => h.del.del
   have hL3 : (delL (delL L (freshS p)) (swapS p)).length ≤ L.length := Nat.le_trans (List.length_filter_le _ _) (List.length_filter_le _ _)
   have hnL := O.nL
   have hn1 := O.n1
   have hV := LgV.nil (B := B) (L := delL (delL L (freshS p)) (swapS p)) hb1 hBl (fun h => hlD (hl3 _ h)) O.p1 O.p2 O.l1 O.l2 O.e1 O.e2 O.b0 O.b1
   have hBw : B ≤ w'.heap.size := by have := lt_of_heap hb1; omega
   refine (readAll_walk hV hd1.dk hd1.ok hd1.us hd1.ur O.rm hi3 (O.so.fr hf1 fun h => ?_) hBw O.hB1 (by omega) fun i h => O.dl i (hl3 i h)).mono ?_
   ·have := O.hB1
    rcases h with h | h
    ·omega
    ·have := O.dl _ h; omega
   ·rintro e w2 ⟨rfl, k, es, used', F', M, hlen⟩
    obtain ⟨S, hL, hLS, hsg, hS⟩ := M.logD (n := n) hlen hi3 (by rw [getL_del, if_neg (start_swap p), getL_del, if_neg (start_fresh p)]; exact O.st) O.rm (fun i h => O.dl i (hl3 i h)) O.hB1 (by omega) O.nE O.nB O.n1 O.be
    have hsz := hf1.size
    exact ⟨0, rfl, fun _ => ⟨es, S, used', F', hL, hLS, hsg, fun i hi => (hS i hi).imp id fun h => by omega, fun x hx => M.rs x fun i t _ _ e => hx (.inl (by rw [e]; exact nmS_pre p t.base)), hf1.trans M.fr fun i h => .inl (h.imp id (hl3 i))⟩, fun h => absurd rfl h⟩
  ·obtain rfl : d = _ := by simpa using hk.symm
   obtain ⟨es, S, used', F', hL, hLS, hsg, hS, hFx, hf1⟩ := hs
   have hl3 : ∀ i, DkS db mb (delL (delL L (freshS p)) (swapS p)) i → DkS db mb L i := fun i h => h.del.del
   refine (trim_walk hL).mono ?_
   rintro e w2 ⟨c, j, own', L', S', us', fu', rfl, hT, hot, hls, hfs, hfd, hfr, -, hfu, hj, how, hus⟩
   obtain ⟨rfl, rfl⟩ := hfu rfl
   have ho1 : Others p L F (delL (delL L (freshS p)) (swapS p)) F' := fun x hx => by
    have h1 := ((others_del' (fresh_mine p)).trans (others_del' (swap_mine p)) : Others p L F (delL (delL L (freshS p)) (swapS p)) F) x hx
    exact ⟨h1.1, hFx x hx⟩
   exact ⟨0, rfl, fun _ => ⟨j, es, own', L', S', us', F', hT, hsg, by rw [hj rfl, hsg], fun h => (how h).1, hls hLS, ho1.trans hot, fun i hi => hS i (hfs i hi), fun i hi => hl3 i (hfd i hi), hf1.trans hfr fun i h => h.elim (fun h => (hS i h).imp .inl id) fun h => .inl (.inr (hl3 i h))⟩, fun h => absurd rfl h⟩
  ·simp at hk
set_option maxHeartbeats 16000000 in
theorem popen_walk (O : OpenIn B w db mb p lim ev beg ts L room used F n) : Calls Tryz.prog 11 #[.pointer (some ⟨db, 0, none⟩), cfgV p lim ev] w (OpenOut B w db mb p lim ev beg ts L room used F n) := by
 have hmy := may_yes p lim ev (w.alloc (.cells #[.string p, .int .i64 lim, .int .i64 ev] 32)) O.p1 O.p2 (by have := O.l1; omega) (by have := O.l2; omega) (by have := O.e1; omega) (by have := O.e2; omega)
 unfold cfgV at hmy
 have HMY := Lib.hid hmy
 have HO := Lib.hid O
 clear O hmy
 unfold cfgV
 go_enter Tryz.func11, Tryz.ntmps11
 go_wp2_with fail
 refine HMY.out.mono ?_
 rintro e w1 ⟨rfl, hf1⟩
 have c0 : w1.cell? ⟨w.heap.size, 0, none⟩ = some (.string p) := hf1.cel (cell_alloc_new _ _ _ 0)
 have c1 : w1.cell? ⟨w.heap.size, 1, none⟩ = some (.int .i64 lim) := hf1.cel (cell_alloc_new _ _ _ 1)
 have c2 : w1.cell? ⟨w.heap.size, 2, none⟩ = some (.int .i64 ev) := hf1.cel (cell_alloc_new _ _ _ 2)
 have F1 := Lib.hid (((Fr.same w).alloc (.cells #[.string p, .int .i64 lim, .int .i64 ev] 32)).tr hf1)
 have hs1 := hf1.size
 clear hf1
 go_wp2_with fail
 have hz1 : (w1.alloc (.cells #[.string p, .int .i64 lim, .int .i64 ev, .pointer (some ⟨db, 0, none⟩), .int .i64 0, .slice none 0 0] 89)).heap.size = w1.heap.size + 1 := by simp
 have hz2 : ((w1.alloc (.cells #[.string p, .int .i64 lim, .int .i64 ev, .pointer (some ⟨db, 0, none⟩), .int .i64 0, .slice none 0 0] 89)).alloc (.cells #[.pointer (some ⟨w1.heap.size, 0, none⟩)] 28)).heap.size = w1.heap.size + 1 + 1 := by simp
 have hlt := heap_alloc_self w1 (.cells #[.string p, .int .i64 lim, .int .i64 ev, .pointer (some ⟨db, 0, none⟩), .int .i64 0, .slice none 0 0] 89)
 have hb1 := (heap_alloc_lt (w := (w1.alloc (.cells #[.string p, .int .i64 lim, .int .i64 ev, .pointer (some ⟨db, 0, none⟩), .int .i64 0, .slice none 0 0] 89))) (.cells #[.pointer (some ⟨w1.heap.size, 0, none⟩)] 28) (by omega : w1.heap.size < _)).trans hlt
 have hb := (heap_alloc_lt (w := ((w1.alloc (.cells #[.string p, .int .i64 lim, .int .i64 ev, .pointer (some ⟨db, 0, none⟩), .int .i64 0, .slice none 0 0] 89)).alloc (.cells #[.pointer (some ⟨w1.heap.size, 0, none⟩)] 28))) (.cells #[.func (.func 40) #[.pointer (some ⟨w1.heap.size, 0, none⟩)] #[], .func (.func 41) #[] #[.pointer (some ⟨w1.heap.size + 1, 0, none⟩), .pointer (some ⟨w.heap.size, 0, none⟩)], .func (.func 44) #[] #[.pointer (some ⟨w1.heap.size + 1, 0, none⟩), .pointer (some ⟨w.heap.size, 0, none⟩)], .func (.func 46) #[.pointer (some ⟨w1.heap.size, 0, none⟩)] #[], .func (.func 47) #[.pointer (some ⟨w1.heap.size, 0, none⟩)] #[]] 54) (by omega : w1.heap.size < _)).trans hb1
 have hFr : Fr (fun _ => False) w1 (((w1.alloc (.cells #[.string p, .int .i64 lim, .int .i64 ev, .pointer (some ⟨db, 0, none⟩), .int .i64 0, .slice none 0 0] 89)).alloc (.cells #[.pointer (some ⟨w1.heap.size, 0, none⟩)] 28)).alloc (.cells #[.func (.func 40) #[.pointer (some ⟨w1.heap.size, 0, none⟩)] #[], .func (.func 41) #[] #[.pointer (some ⟨w1.heap.size + 1, 0, none⟩), .pointer (some ⟨w.heap.size, 0, none⟩)], .func (.func 44) #[] #[.pointer (some ⟨w1.heap.size + 1, 0, none⟩), .pointer (some ⟨w.heap.size, 0, none⟩)], .func (.func 46) #[.pointer (some ⟨w1.heap.size, 0, none⟩)] #[], .func (.func 47) #[.pointer (some ⟨w1.heap.size, 0, none⟩)] #[]] 54)) := (((Fr.same w1).alloc _).alloc _).alloc _
 have hFr1 : Fr (fun _ => False) ((w1.alloc (.cells #[.string p, .int .i64 lim, .int .i64 ev, .pointer (some ⟨db, 0, none⟩), .int .i64 0, .slice none 0 0] 89)).alloc (.cells #[.pointer (some ⟨w1.heap.size, 0, none⟩)] 28)) (((w1.alloc (.cells #[.string p, .int .i64 lim, .int .i64 ev, .pointer (some ⟨db, 0, none⟩), .int .i64 0, .slice none 0 0] 89)).alloc (.cells #[.pointer (some ⟨w1.heap.size, 0, none⟩)] 28)).alloc (.cells #[.func (.func 40) #[.pointer (some ⟨w1.heap.size, 0, none⟩)] #[], .func (.func 41) #[] #[.pointer (some ⟨w1.heap.size + 1, 0, none⟩), .pointer (some ⟨w.heap.size, 0, none⟩)], .func (.func 44) #[] #[.pointer (some ⟨w1.heap.size + 1, 0, none⟩), .pointer (some ⟨w.heap.size, 0, none⟩)], .func (.func 46) #[.pointer (some ⟨w1.heap.size, 0, none⟩)] #[], .func (.func 47) #[.pointer (some ⟨w1.heap.size, 0, none⟩)] #[]] 54)) := (Fr.same _).alloc _
 have h6 := hFr1.cel (cell_alloc_new (w1.alloc (.cells #[.string p, .int .i64 lim, .int .i64 ev, .pointer (some ⟨db, 0, none⟩), .int .i64 0, .slice none 0 0] 89)) #[.pointer (some ⟨w1.heap.size, 0, none⟩)] 28 0)
 have hg := fun k => cell_alloc_new ((w1.alloc (.cells #[.string p, .int .i64 lim, .int .i64 ev, .pointer (some ⟨db, 0, none⟩), .int .i64 0, .slice none 0 0] 89)).alloc (.cells #[.pointer (some ⟨w1.heap.size, 0, none⟩)] 28)) #[.func (.func 40) #[.pointer (some ⟨w1.heap.size, 0, none⟩)] #[], .func (.func 41) #[] #[.pointer (some ⟨w1.heap.size + 1, 0, none⟩), .pointer (some ⟨w.heap.size, 0, none⟩)], .func (.func 44) #[] #[.pointer (some ⟨w1.heap.size + 1, 0, none⟩), .pointer (some ⟨w.heap.size, 0, none⟩)], .func (.func 46) #[.pointer (some ⟨w1.heap.size, 0, none⟩)] #[], .func (.func 47) #[.pointer (some ⟨w1.heap.size, 0, none⟩)] #[]] 54 k
 rw [hz1] at h6
 rw [hz2] at hg
 have h30 := hFr.cel c0
 have h31 := hFr.cel c1
 have h32 := hFr.cel c2
 have hFA := F1.out.tr hFr
 clear hlt hb1 hFr1 hz1 hz2 hFr c0 c1 c2
 have hs0 : w.heap.size < w1.heap.size := by simp at hs1; omega
 obtain ⟨wA, hA⟩ : ∃ wA, wA = (((w1.alloc (.cells #[.string p, .int .i64 lim, .int .i64 ev, .pointer (some ⟨db, 0, none⟩), .int .i64 0, .slice none 0 0] 89)).alloc (.cells #[.pointer (some ⟨w1.heap.size, 0, none⟩)] 28)).alloc (.cells #[.func (.func 40) #[.pointer (some ⟨w1.heap.size, 0, none⟩)] #[], .func (.func 41) #[] #[.pointer (some ⟨w1.heap.size + 1, 0, none⟩), .pointer (some ⟨w.heap.size, 0, none⟩)], .func (.func 44) #[] #[.pointer (some ⟨w1.heap.size + 1, 0, none⟩), .pointer (some ⟨w.heap.size, 0, none⟩)], .func (.func 46) #[.pointer (some ⟨w1.heap.size, 0, none⟩)] #[], .func (.func 47) #[.pointer (some ⟨w1.heap.size, 0, none⟩)] #[]] 54)) := ⟨_, rfl⟩
 rw [← hA] at hb h6 hg h30 h31 h32 hFA ⊢
 obtain ⟨lb, hlb⟩ : ∃ lb, lb = w1.heap.size := ⟨_, rfl⟩
 rw [← hlb] at hb h6 hg ⊢
 have hwlb : w.heap.size ≤ lb := by omega
 have hDlt : ∀ i, DkS db mb L i → i < w.heap.size := fun i hi => HO.out.d.dk.lt hi
 have hOA : OpenIn B wA db mb p lim ev beg ts L room used F n := ⟨HO.out.d.old hFA, HO.out.rm, HO.out.i, HO.out.st, HO.out.b0, HO.out.b1, HO.out.be, HO.out.dl, HO.out.hB1, HO.out.nL, HO.out.nE, HO.out.nB, HO.out.n1, HO.out.p1, HO.out.p2, HO.out.l1, HO.out.l2, HO.out.e1, HO.out.e2, HO.out.so.old hFA⟩
 have hBw : B ≤ w.heap.size := by
  have h1 := HO.out.dl db (.inl rfl)
  have h2 := hDlt db (.inl rfl)
  omega
 have hall := popen_all (lb := lb) (a6 := lb + 1) (a3 := w.heap.size) (g := lb + 1 + 1) hOA hb (by omega) (fun h => by have := hDlt _ h; omega) h6 h30 h31 h32 (fun h => by
  rcases h with h | h
  ·omega
  ·have := hDlt _ h; omega) (fun h => by
  rcases h with h | h
  ·omega
  ·have := hDlt _ h; omega) (fun h => by
  rcases h with h | h
  ·omega
  ·have := hDlt _ h; omega) (fun k d hk => by
  rw [hg k]
  rcases k with _ | _ | _ | _ | _ | k
  ·obtain rfl : d = _ := by simpa using hk.symm
   rfl
  ·obtain rfl : d = _ := by simpa using hk.symm
   rfl
  ·obtain rfl : d = _ := by simpa using hk.symm
   rfl
  ·obtain rfl : d = _ := by simpa using hk.symm
   rfl
  ·obtain rfl : d = _ := by simpa using hk.symm
   rfl
  ·simp at hk)
 have HALL := Lib.hid hall
 have H6 := Lib.hid h6
 have FA := Lib.hid hFA
 have HLB := Lib.hid (And.intro hwlb hs0)
 have HDLT := Lib.hid hDlt
 have hlA := lt_of_heap hb
 clear hall hOA hb h6 hg h30 h31 h32 hFA hA hlb hDlt hBw hs1
 refine HALL.out.mono ?_
 rintro e w2 ⟨rfl, j, es, own', L', S', us', F', hL, hsg, hj, how, hls, hot, hS, hDk, hfr⟩
 have c6 := hfr.cell H6.out (fun h => by
  rcases h with h | h
  ·have h : lb + 1 = lb := h; omega
  ·have := HDLT.out _ h; have h9 : (⟨lb + 1, 0, none⟩ : Addr).block = lb + 1 := rfl; have := HLB.out; omega)
 have D2 := Lib.hid hL
 have R2 := Lib.hid (show segsOf es = ts ∧ j = trimN beg ts ∧ (j = 0 → own' = true) ∧ LastSafeE p (es.drop j) L' F' ∧ Others p L F L' F' ∧ (∀ i, S' i → w.heap.size ≤ i) ∧ (∀ i, DkS db mb L' i → DkS db mb L i) ∧ Fr (DkS db mb L) w w2 from
  ⟨hsg, hj, how, hls, hot, fun i hi => by
   have h1 := HLB.out
   have h2 := FA.out.size
   rcases hS i hi with h | h <;> omega, hDk, (FA.out.mono (S' := DkS db mb L) fun i h => h.elim).trans hfr fun i h => h.elim (fun h => .inr (by have := HLB.out; omega)) .inl⟩)
 have cbeg := hL.lg.begc
 clear hL hsg hj how hls hot hS hDk hfr HALL
 have z6 : ∀ y : Lcl.InS (fun w' => Fr (fun _ => False) w2 w'), y.w.cell? ⟨lb + 1, 0, none⟩ = some (.pointer (some ⟨lb, 0, none⟩)) := fun y => y.h.cel c6
 have z4 : ∀ y : Lcl.InS (fun w' => Fr (fun _ => False) w2 w'), y.w.cell? ⟨lb, 4, none⟩ = some (.int .i64 beg) := fun y => y.h.cel cbeg
 go_wp2_with fail
 refine Lcl.wp_region_calm (by kernel_rfl) [(false, [0, 4]), (true, [1, 2]), (false, [3])] #[0, 1, 3, 7, 0, 16, 63] [0, 1, 2, 3, 4, 5] 2 #[true, true, true, true, true, false, false] (by kernel_rfl) (by kernel_rfl) (by kernel_rfl) (fun w' => Fr (fun _ => False) w2 w') (Fr.same w2).drew (fun d c a v w h => by cases d <;> exact h) ?_
 simp only [Lcl.opsOf, List.map_cons, List.map_nil, List.getElem?_toArray, List.getElem?_cons_succ, List.getElem?_cons_zero, Option.getD_some]
 refine Lcl.wpCalm_f ?_
 repeat (go_big_quiet_step (rfl))
 refine wpQuiet_nil ?_
 refine Lcl.wpCalm_t ?_
 repeat (go_big_quiet_step (rfl))
 refine wpQuiet_nil ?_
 refine Lcl.wpCalm_f ?_
 repeat (go_big_quiet_step (rfl))
 refine wpQuiet_nil ?_
 refine Lcl.wpCalm_nil ?_
 clear z6 z4
 have HE := Lib.hid (lend_walk (D2.out.old (Fr.same w2).drew).lg)
 refine Lcl.wpG_one 5 rfl (by kernel_rfl) ?_
 go_wp2_with fail
 refine HE.out.mono ?_
 rintro e w3 ⟨rfl, hf3⟩
 have Q3 := Lib.hid ((Fr.same w2).drew.tr hf3)
 have hbe : ¬ lgEnd beg (es.drop j) < beg := by have := D2.out.be; omega
 have c6' := Q3.out.cel c6
 clear hf3 HE c6 cbeg
 go_wp2_with fail
 refine ⟨fun _ _ => Q3.out, ?_⟩
 refine Lcl.wpG_run [6] _ _ _ (by kernel_rfl) ?_
 simp only [List.map_cons, List.map_nil, List.getElem?_toArray, List.getElem?_cons_succ, List.getElem?_cons_zero, Option.getD_some]
 go_wp2_with fail
 go_ret2
 exact ⟨lb, j, es, own', L', S', us', F', rfl, D2.out.old Q3.out, R2.out.1, R2.out.2.1, R2.out.2.2.1, R2.out.2.2.2.1, R2.out.2.2.2.2.1, R2.out.2.2.2.2.2.1, R2.out.2.2.2.2.2.2.1, R2.out.2.2.2.2.2.2.2.trans Q3.out fun i h => h.elim⟩
end
end Go.Proofs.YtdlnafhhkpklmaaGreatDoor
/- A log is read: laws, and the walk of Read. -/
namespace Go.Proofs.YtdlnafhhkpklmaaGreatDoor
open Go.RowKit Go.Fm Go.BigFrame Go.Shelf Go.Maps
set_option linter.unusedVariables false
set_option linter.unusedSimpArgs false
set_option maxRecDepth 100000
section
variable {B : Nat} {w w' w0 w1 w2 w3 wr : World} {lb db mb : Nat} {p : ByteArray} {lim ev : Nat} {beg : Int} {es es' : List PE} {own own' : Bool} {L L' : List Row} {S S' : Nat → Prop} {room used fuse used' fuse' used2 : Int} {F F' F2 : ByteArray → ByteArray × Nat} {G : Nat → Prop} {n j k : Nat} {ts : List Seg} {N : List ByteArray}
def over (from' : Int) (b : Bat) : Bool := decide (from' < b.base + b.span)
theorem pick_over (from' most : Int) : ∀ (l r : List Bat) (n : Int) (out : List Bat), pick from' most (l ++ r) n out = pick from' most (l.filter (over from') ++ r) n out
 | [], _, _, _ => rfl
 | b :: l, r, n, out => by
  by_cases h : b.base + b.span ≤ from'
  ·have h1 : over from' b = false := by unfold over; simpa using h
   rw [List.cons_append, pick, if_pos h, List.filter_cons_of_neg (by simp [h1])]
   exact pick_over from' most l r n out
  ·have h1 : over from' b = true := by unfold over; simp; omega
   rw [List.cons_append, pick, if_neg h, List.filter_cons_of_pos h1, List.cons_append, pick, if_neg h]
   split
   ·rfl
   ·exact pick_over from' most l r _ _
theorem pick_big (from' most : Int) : ∀ (l : List Bat) (n : Int) (out : List Bat), n + sumB l ≤ most → pick from' most l n out = out ++ l.filter (over from')
 | [], _, out, _ => by simp [pick]
 | b :: l, n, out, h => by
  rw [sumB_cons] at h
  have h0 := bsz_pos b
  by_cases h1 : b.base + b.span ≤ from'
  ·have h2 : over from' b = false := by unfold over; simpa using h1
   rw [pick, if_pos h1, List.filter_cons_of_neg (by simp [h2])]
   exact pick_big from' most l n out (by omega)
  ·have h2 : over from' b = true := by unfold over; simp; omega
   rw [pick, if_neg h1, if_neg (by omega), List.filter_cons_of_pos h2, pick_big from' most l _ _ (by omega), List.append_assoc]
   rfl
structure LRd (w0 : World) (R0 : List Bat) (from' most : Int) (l : List Bat) (m : Int) (o : Value) (out : List Bat) (wr : World) : Prop where
 own : OwnBats (fun b => w0.heap.size ≤ b) w0.heap.size wr o out
 eq : pick from' most l m out = R0
 n0 : 0 ≤ m
 n1 : m ≤ out.length * 60008
 len : out.length + l.length ≤ 700
 fr : Fr (fun _ => False) w0 wr
/-- A slice does not have more than it has room for. -/
def CapOK (v : Value) : Prop := ∀ oa n c, v = .slice oa n c → n ≤ c
theorem OwnBats.cap {K : Nat → Prop} {v : Value} {bs : List Bat} (h : OwnBats K B w v bs) : CapOK v := by
 obtain ⟨zs, -, ho, -⟩ := h
 intro oa n c e
 rcases ho.2 with ⟨h1, h0⟩ | ⟨g, cap, cur, h1, hb, hg, h2, h3, -⟩
 ·rw [e] at h1; injection h1 with _ h4 h5; omega
 ·rw [e] at h1; injection h1 with _ h4 h5; omega
def LReadPost (w : World) (l : List Bat) (from' most beg en : Int) (e : Ending) (w' : World) : Prop :=
 ((from' < beg ∨ en < from') ∧ e = .returned (.tuple #[.slice none 0 0, .int .i64 12]) ∧ Fr (fun _ => False) w w') ∨
 (beg ≤ from' ∧ from' ≤ en ∧ ∃ v, e = .returned (.tuple #[v, .int .i64 0]) ∧ BatsR (fun b => w.heap.size ≤ b) w' v (pick from' most l 0 []) ∧ CapOK v ∧ Fr (fun _ => False) w w')
theorem LRd.stop {R0 : List Bat} {from' most : Int} {l : List Bat} {m : Int} {o : Value} {out : List Bat} (h : LRd w0 R0 from' most l m o out wr) {b : Bat} {r : List Bat} (hl : l = b :: r) (ho : over from' b = true) (hc : 0 < out.length ∧ most < m + bsz b) (hf : Fr (fun _ => False) wr w') : BatsR (fun b => w0.heap.size ≤ b) w' o R0 := by
 unfold over at ho
 simp at ho
 rw [← h.eq, hl, pick, if_neg (by omega), if_pos hc]
 exact (h.own.old hf).reads (fun b hb _ => hb) fun b hb _ => hb
theorem LRd.done {R0 : List Bat} {from' most : Int} {m : Int} {o : Value} {out : List Bat} (h : LRd w0 R0 from' most [] m o out wr) (hf : Fr (fun _ => False) wr w') : BatsR (fun b => w0.heap.size ≤ b) w' o R0 := by
 rw [← h.eq, pick]
 exact (h.own.old hf).reads (fun b hb _ => hb) fun b hb _ => hb
theorem LRd.push {R0 : List Bat} {from' most : Int} {l : List Bat} {m : Int} {o o' : Value} {out : List Bat} (h : LRd w0 R0 from' most l m o out wr) {b : Bat} {r : List Bat} (hl : l = b :: r) (hb : bsz b ≤ 60008) (ho : over from' b = true) (hc : ¬ (0 < out.length ∧ most < m + bsz b))
  (hw : OwnBats (fun b => w0.heap.size ≤ b) w0.heap.size w' o' (out ++ [b])) (hf : Fr (fun _ => False) w0 w') : LRd w0 R0 from' most r (m + bsz b) o' (out ++ [b]) w' := by
 unfold over at ho
 simp at ho
 refine ⟨hw, ?_, by have := h.n0; omega, ?_, ?_, hf⟩
 ·rw [← h.eq, hl, pick, if_neg (by omega), if_neg hc]
 ·have := h.n1
  rw [List.length_append, List.length_singleton]
  omega
 ·have := h.len
  rw [hl, List.length_cons] at this
  rw [List.length_append, List.length_singleton]
  omega
theorem LRd.skip {R0 : List Bat} {from' most : Int} {l r : List Bat} {m : Int} {o : Value} {out : List Bat} (h : LRd w0 R0 from' most (l ++ r) m o out wr) (hf : Fr (fun _ => False) wr w') : LRd w0 R0 from' most (l.filter (over from') ++ r) m o out w' := by
 refine ⟨h.own.old hf, ?_, h.n0, h.n1, ?_, h.fr.tr hf⟩
 ·rw [← h.eq, ← pick_over]
 ·have := h.len
  have h2 := List.length_filter_le (over from') l
  rw [List.length_append] at this ⊢
  omega
def catE (es : List PE) : List Bat := catL (segsOf es)
theorem catE_drop {k : Nat} {e : PE} (h : es[k]? = some e) : catE (es.drop k) = e.s.l ++ catE (es.drop (k + 1)) := by
 have hlt := (List.getElem?_eq_some_iff.1 h).1
 rw [List.drop_eq_getElem_cons hlt, (List.getElem?_eq_some_iff.1 h).2]
 rfl
set_option maxHeartbeats 16000000 in
theorem lread_walk (h : LogD B w lb db mb p lim ev beg es own L S room used fuse F n) (hst : StepsOK w) (from' most : Int) : Calls Tryz.prog 18 #[.pointer (some ⟨lb, 0, none⟩), .int .i64 from', .int .i64 most] w (LReadPost w (catE es) from' most beg (lgEnd beg es)) := by
 have D := Lib.hid h
 have HST := Lib.hid hst
 have cb := h.lg.begc
 obtain ⟨sv, G, hV, hSS⟩ := h.lg
 obtain ⟨oa, cap, rfl, hcap, hml, hrd⟩ := hV.rd
 have HC5 := Lib.hid (show w.cell? ⟨lb, 5, none⟩ = some (.slice oa es.length cap) from (cell_of hV.b 5).trans rfl)
 have hn7 : es.length ≤ 700 := Nat.le_trans h.nE h.n1
 have RD := Lib.hid hrd
 have HL0 := Lib.hid (show LRd w (pick from' most (catE es) 0 []) from' most (catE es) 0 (.slice none 0 0) [] w from ⟨OwnBats.nil _ _ _, rfl, Int.le_refl _, by simp, by
  have h1 := h.nB
  have h2 := h.n1
  unfold catE
  simp
  omega, Fr.same _⟩)
 clear h hst hV hSS hrd
 unfold LReadPost
 obtain ⟨R0, hR0⟩ : ∃ R0, R0 = pick from' most (catE es) 0 [] := ⟨_, rfl⟩
 rw [← hR0] at HL0 ⊢
 clear hR0
 by_cases h1 : from' < beg
 ·go_enter Tryz.func18, Tryz.ntmps18
  go_wp2_with fail
  go_ret2
  exact .inl ⟨.inl h1, rfl, Fr.same _⟩
 ·have HE := Lib.hid (lend_walk D.out.lg)
  by_cases h2 : lgEnd beg es < from'
  ·go_enter Tryz.func18, Tryz.ntmps18
   go_wp2_with fail
   refine HE.out.mono ?_
   rintro e w1 ⟨rfl, hf⟩
   have F1 := Lib.hid hf
   clear hf
   go_wp2_with fail
   go_ret2
   exact .inl ⟨.inr h2, rfl, F1.out⟩
  ·go_enter Tryz.func18, Tryz.ntmps18
   go_wp2_with fail
   refine HE.out.mono ?_
   rintro e w1 ⟨rfl, hf⟩
   have F1 := Lib.hid hf
   have c5 := hf.cel HC5.out
   have HB := Lib.hid (show beg ≤ from' ∧ from' ≤ lgEnd beg es from by omega)
   have M1 := Lib.hid (show LRd w R0 from' most (catE (es.drop 0)) 0 (.slice none 0 0) [] w1 from ⟨HL0.out.own.old hf, HL0.out.eq, HL0.out.n0, HL0.out.n1, HL0.out.len, HL0.out.fr.tr hf⟩)
   clear hf HE h1 HL0
   go_wp2_with fail
   clear c5 h2
   go_loopw [8, 9, 35] (fun o m i wr => ∃ (k : Nat) (mm : Int) (out : List Bat), i = .int .i64 k ∧ k ≤ es.length ∧ m = .int .i64 mm ∧ LRd w R0 from' most (catE (es.drop k)) mm o out wr) (fun _ _ i _ => es.length - (intOf i).toNat)
   case atStart => exact ⟨0, 0, [], rfl, Nat.zero_le _, rfl, M1.out⟩
   case round =>
    obtain ⟨k, mm, out, rfl, hk, rfl, hM⟩ := hrel
    obtain ⟨ob, ocap, rfl⟩ := hM.own.slice
    have M := Lib.hid hM
    clear hM M1
    rcases Nat.lt_or_ge k es.length with hlt | hge
    case inr =>
     obtain rfl : k = es.length := by omega
     go_wp2_with fail
     go_ret2
     have hM := M.out
     rw [List.drop_length] at hM
     exact .inr ⟨HB.out.1, HB.out.2, _, rfl, hM.done (Fr.same _), hM.own.cap, hM.fr⟩
    case inl =>
     obtain ⟨x, hx⟩ := get_of_lt hlt
     obtain ⟨a, rfl, hc, -⟩ := RD.out k x hx
     have hc := M.out.fr.cel hc
     unfold segV at hc
     have HR := Lib.hid (sread_walk ((D.out.lg.old M.out.fr).seg (List.mem_of_getElem? hx)) from' 1099511627776)
     have hsok := (D.out.lg.seg (List.mem_of_getElem? hx)).ok
     have hsum := hsok.sum
     have hpk := pick_big from' 1099511627776 x.s.l 0 [] (by omega)
     have hM := M.out
     rw [catE_drop hx] at hM
     have MC := Lib.hid hM
     have HX := Lib.hid (And.intro hx hsok.ch)
     have HPK := Lib.hid hpk
     clear hx hsok hpk hM M hsum
     go_wp2_with fail
     refine HR.out.mono ?_
     rintro e w2 ⟨v, rfl, hv, hf⟩
     rw [HPK.out, List.nil_append] at hv
     have MS := Lib.hid (MC.out.skip hf)
     have hvv := hv
     obtain ⟨oa2, cap2, rfl, -⟩ := hvv
     have HV := Lib.hid (show BatsR (fun b => wr.heap.size ≤ b ∧ b < w2.heap.size) w2 _ _ from hv.mono fun b hb hl => ⟨hb, hl⟩)
     have hfall : ∀ b ∈ x.s.l.filter (over from'), BatOK b ∧ over from' b = true := fun b hb => ⟨(HX.out.2.ok b (List.mem_filter.1 hb).1).1, (List.mem_filter.1 hb).2⟩
     have HFA := Lib.hid hfall
     have hlo := MC.out.fr.size
     have hob : ∀ g, (Value.slice ob out.length ocap).ownBlock = some g → g < wr.heap.size ∨ w2.heap.size ≤ g := fun g hg => .inl (MC.out.own.lt hg).2
     have HOB := Lib.hid hob
     have hfl7 : (x.s.l.filter (over from')).length ≤ 700 := by
      have h1 := MS.out.len
      rw [List.length_append] at h1
      omega
     obtain ⟨f, hfe⟩ : ∃ f, f = x.s.l.filter (over from') := ⟨_, rfl⟩
     obtain ⟨rest, hre⟩ : ∃ rest, rest = catE (es.drop (k + 1)) := ⟨_, rfl⟩
     rw [← hfe] at MS HV HFA hfl7 ⊢
     rw [← hre] at MS
     have HRE := Lib.hid hre
     have hsz2 := hf.size
     clear hv hf hfall hfe hre hob HR hc
     go_wp2_with fail
     clear HX HPK MC hc
     have hlo := Lib.hid hlo
     obtain ⟨lo, hloe⟩ : ∃ lo, lo = wr.heap.size := ⟨_, rfl⟩
     rw [← hloe] at hlo HOB HV
     have hw2 : lo ≤ w2.heap.size := by omega
     clear hsz2 hloe
     obtain ⟨hi, hhi⟩ : ∃ hi, hi = w2.heap.size := ⟨_, rfl⟩
     rw [← hhi] at HOB HV hw2
     have HW2 := Lib.hid (show hi ≤ w2.heap.size from by omega)
     clear hhi
     go_loopw [8, 9, 43] (fun o m i wq => ∃ (q : Nat) (mq : Int) (out2 : List Bat), i = .int .i64 q ∧ q ≤ f.length ∧ m = .int .i64 mq ∧ LRd w R0 from' most (f.drop q ++ rest) mq o out2 wq ∧ (∀ g, o.ownBlock = some g → g < lo ∨ hi ≤ g) ∧ BatsR (fun b => lo ≤ b ∧ b < hi) wq (.slice oa2 f.length cap2) f ∧ hi ≤ wq.heap.size) (fun _ _ i _ => f.length - (intOf i).toNat)
     case atStart => exact ⟨0, mm, out, rfl, Nat.zero_le _, rfl, MS.out, HOB.out, HV.out, HW2.out⟩
     case round =>
      obtain ⟨q, mq, out2, rfl, hq, rfl, hM, hob, hbs, hhw⟩ := hrel
      obtain ⟨ob2, ocap2, rfl⟩ := hM.own.slice
      have N := Lib.hid hM
      have OB := Lib.hid hob
      have HVQ := Lib.hid hbs
      clear hM hob hbs MS HOB HV
      rcases Nat.lt_or_ge q f.length with hlt2 | hge2
      case inr =>
       obtain rfl : q = f.length := by omega
       go_wp2_with fail
       go_roundw
       case rel => exact ⟨k + 1, mq, out2, by go_num, hlt, rfl, by
        have h9 := N.out
        rw [List.drop_length, List.nil_append, HRE.out] at h9
        exact h9⟩
       case measure => simp [intOf]; omega
      case inl =>
       obtain ⟨b, hb⟩ := get_of_lt hlt2
       obtain ⟨oa3, cap3, hva, hvk⟩ := HVQ.out
       obtain ⟨A2, rv, ha2, hKA, hc, hr⟩ := hvk q b hb
       subst ha2
       injection hva with hva hva2 hva3
       subst hva
       subst hva3
       clear hva2
       have hh := hr
       obtain ⟨ra, rcap, rfl, -⟩ := hh
       obtain ⟨c0, c1, c2, c3, c4, c5⟩ := hc
       have hfb := HFA.out b (List.mem_of_getElem? hb)
       have hsz := bsz_le hfb.1
       have HSP := Lib.hid (show f.drop q ++ rest = b :: (f.drop (q + 1) ++ rest) ∧ bsz b ≤ 60008 ∧ over from' b = true from ⟨by
        rw [List.drop_eq_getElem_cons hlt2]
        rw [(List.getElem?_eq_some_iff.1 hb).2]
        rfl, hsz, hfb.2⟩)
       have HBOK := Lib.hid hfb.1
       have hWA : Fr (fun _ => False) wr (wr.alloc (.cells (batCells b (.slice ra b.recs.length rcap)).toArray 36)) := (Fr.same wr).alloc _
       have HXA := Lib.hid (heap_alloc_self wr (.cells (batCells b (.slice ra b.recs.length rcap)).toArray 36))
       have hen := bencode_walk _ b (.slice ra b.recs.length rcap) (wr.alloc (.cells (batCells b (.slice ra b.recs.length rcap)).toArray 36)) (hr.old hWA) (HST.out.old (N.out.fr.tr hWA))
       have HEN := Lib.hid hen
       have HR1 := Lib.hid (hr.old hWA)
       have WA := Lib.hid hWA
       have hm0 := N.out.n0
       have hm1 := N.out.n1
       have hln := N.out.len
       rw [List.length_append] at hln
       have HHI := Lib.hid hhw
       clear hb hvk hr hfb hWA hen hKA
       unfold batCells at HEN HXA HR1 WA
       unfold batV at HEN
       go_wp2_with fail
       generalize (wr.alloc (.cells #[.int .i64 b.base, .int .i64 b.span, .int .i64 b.prod, .int .i64 b.epoch, .int .i64 b.seq, .slice ra b.recs.length rcap] 36)) = W at *
       refine HEN.out.mono ?_
       rintro e w5 ⟨hres, hf5⟩
       have he : e = .returned (.tuple #[.string (batS b), .int .i64 0]) := by
        rcases hres with ⟨-, h⟩ | ⟨h, -⟩
        ·exact h
        ·exact absurd HBOK.out h
       subst he
       have FW := Lib.hid (WA.out.tr hf5)
       have HR4 := Lib.hid (HR1.out.old hf5)
       have X5 := Lib.hid ((hf5.block _ (lt_of_heap HXA.out) fun h => h).trans HXA.out)
       have d0 : w5.cell? ⟨wr.heap.size, 0, none⟩ = some (.int .i64 b.base) := (cell_of X5.out 0).trans rfl
       have d1 : w5.cell? ⟨wr.heap.size, 1, none⟩ = some (.int .i64 b.span) := (cell_of X5.out 1).trans rfl
       have d2 : w5.cell? ⟨wr.heap.size, 2, none⟩ = some (.int .i64 b.prod) := (cell_of X5.out 2).trans rfl
       have d3 : w5.cell? ⟨wr.heap.size, 3, none⟩ = some (.int .i64 b.epoch) := (cell_of X5.out 3).trans rfl
       have d4 : w5.cell? ⟨wr.heap.size, 4, none⟩ = some (.int .i64 b.seq) := (cell_of X5.out 4).trans rfl
       have d5 : w5.cell? ⟨wr.heap.size, 5, none⟩ = some (.slice ra b.recs.length rcap) := (cell_of X5.out 5).trans rfl
       have hbz : (batS b).size = bsz b := rfl
       obtain ⟨z, hz⟩ : ∃ z, z = bsz b := ⟨_, rfl⟩
       have HZ := Lib.hid hz
       rw [← hz] at hbz hsz
       clear hres hf5 c0 c1 c2 c3 c4 c5 HEN HXA HR1 WA hz
       by_cases hmo : most < mq + z
       case pos =>
        by_cases ho0 : out2.length = 0
        case neg =>
         have hz' : 0 < out2.length := by omega
         have hstop := N.out.stop HSP.out.1 HSP.out.2.2 ⟨by omega, by rw [← HZ.out]; exact hmo⟩ FW.out
         have HS := Lib.hid hstop
         have HF := Lib.hid (N.out.fr.tr FW.out)
         clear hstop ho0
         go_wp2_with fail
         go_ret2
         exact .inr ⟨HB.out.1, HB.out.2, _, rfl, HS.out, N.out.own.cap, HF.out⟩
        case pos =>
         have HNS := Lib.hid (show ¬ (0 < out2.length ∧ most < mq + bsz b) from fun h => by omega)
         have hz' : ¬ 0 < out2.length := by omega
         have hzz : decide (0 < out2.length) = false := by simpa using ho0
         clear ho0
         have hol : out2.length < 1000000 := by have := N.out.len; omega
         have HR5 := Lib.hid ((HR4.out.old ((Fr.same w5).alloc (.cells (batCells b (.slice ra b.recs.length rcap)).toArray 36))).mono (K' := fun x => w.heap.size ≤ x ∧ (Value.slice ob2 out2.length ocap2).ownBlock ≠ some x) fun x hx _ => ⟨by have h1 := hlo.out; have h2 : lo ≤ x ∧ x < hi := hx; omega, fun e => by
          have h1 := OB.out x e
          have h2 : lo ≤ x ∧ x < hi := hx
          omega⟩)
         have HOW5 := Lib.hid ((N.out.own.old FW.out).old ((Fr.same w5).alloc (.cells (batCells b (.slice ra b.recs.length rcap)).toArray 36)))
         have CA5 := Lib.hid (fun j => cell_alloc_new w5 (batCells b (.slice ra b.recs.length rcap)).toArray 36 j)
         have F5 := Lib.hid ((N.out.fr.tr FW.out).alloc (.cells (batCells b (.slice ra b.recs.length rcap)).toArray 36))
         have FR5 := Lib.hid (FW.out.alloc (.cells (batCells b (.slice ra b.recs.length rcap)).toArray 36))
         have HWB := Lib.hid F5.out.size
         unfold batCells at HR5 HOW5 CA5 F5 HWB FR5
         go_wp2_with (at_builtin; refine wpList_push_bat _ rfl (.tmp 65) (.tmp 67) rfl (fun b => w.heap.size ≤ b) w.heap.size (.slice ob2 out2.length ocap2) out2 rfl HOW5.out w5.heap.size 1 rfl b (.slice ra b.recs.length rcap) CA5.out HR5.out rfl hol HWB.out ?_)
         intro v6 w6 ho6 hg6 hb6
         have F6 := Lib.hid (F5.out.grown hg6 fun k hk => .inr (HOW5.out.lt hk).1)
         have MP := Lib.hid (N.out.push HSP.out.1 HSP.out.2.1 HSP.out.2.2 HNS.out ho6 F6.out)
         have hfr6 : Fr (fun i => (Value.slice ob2 out2.length ocap2).ownBlock = some i) wr w6 := (FR5.out.mono (S' := fun i => (Value.slice ob2 out2.length ocap2).ownBlock = some i) fun i h => h.elim).grown hg6 fun k hk => .inl hk
         have F6b := Lib.hid (show BatsR (fun b => lo ≤ b ∧ b < hi) w6 (.slice (some A2) f.length cap2) f from HVQ.out.fr hfr6 fun x hx e => by have h1 := OB.out x e; have h2 : lo ≤ x ∧ x < hi := hx; omega)
         have OB6 := Lib.hid (show ∀ g, v6.ownBlock = some g → g < lo ∨ hi ≤ g from fun g hg => by
          rcases hb6 with h | h
          ·rw [h] at hg; exact OB.out g hg
          ·rw [h] at hg
           injection hg with hg
           have h7 := FR5.out.size
           have h8 := HHI.out
           try simp at h7 hg
           omega)
         have SZ6 := Lib.hid (show hi ≤ w6.heap.size from Nat.le_trans HHI.out hfr6.size)
         clear ho6 hg6 hb6 hfr6
         go_wp2_with fail
         go_roundw
         case rel => exact ⟨q + 1, mq + bsz b, out2 ++ [b], by go_num, hlt2, by rw [HZ.out], MP.out, OB6.out, F6b.out, SZ6.out⟩
         case measure => simp [intOf]; omega
       case neg =>
        have HNS := Lib.hid (show ¬ (0 < out2.length ∧ most < mq + bsz b) from fun h => hmo (by rw [HZ.out]; exact h.2))
        have hol : out2.length < 1000000 := by have := N.out.len; omega
        have HR5 := Lib.hid ((HR4.out.old ((Fr.same w5).alloc (.cells (batCells b (.slice ra b.recs.length rcap)).toArray 36))).mono (K' := fun x => w.heap.size ≤ x ∧ (Value.slice ob2 out2.length ocap2).ownBlock ≠ some x) fun x hx _ => ⟨by have h1 := hlo.out; have h2 : lo ≤ x ∧ x < hi := hx; omega, fun e => by
         have h1 := OB.out x e
         have h2 : lo ≤ x ∧ x < hi := hx
         omega⟩)
        have HOW5 := Lib.hid ((N.out.own.old FW.out).old ((Fr.same w5).alloc (.cells (batCells b (.slice ra b.recs.length rcap)).toArray 36)))
        have CA5 := Lib.hid (fun j => cell_alloc_new w5 (batCells b (.slice ra b.recs.length rcap)).toArray 36 j)
        have F5 := Lib.hid ((N.out.fr.tr FW.out).alloc (.cells (batCells b (.slice ra b.recs.length rcap)).toArray 36))
        have FR5 := Lib.hid (FW.out.alloc (.cells (batCells b (.slice ra b.recs.length rcap)).toArray 36))
        have HWB := Lib.hid F5.out.size
        unfold batCells at HR5 HOW5 CA5 F5 HWB FR5
        go_wp2_with (at_builtin; refine wpList_push_bat _ rfl (.tmp 65) (.tmp 67) rfl (fun b => w.heap.size ≤ b) w.heap.size (.slice ob2 out2.length ocap2) out2 rfl HOW5.out w5.heap.size 1 rfl b (.slice ra b.recs.length rcap) CA5.out HR5.out rfl hol HWB.out ?_)
        intro v6 w6 ho6 hg6 hb6
        have F6 := Lib.hid (F5.out.grown hg6 fun k hk => .inr (HOW5.out.lt hk).1)
        have MP := Lib.hid (N.out.push HSP.out.1 HSP.out.2.1 HSP.out.2.2 HNS.out ho6 F6.out)
        have hfr6 : Fr (fun i => (Value.slice ob2 out2.length ocap2).ownBlock = some i) wr w6 := (FR5.out.mono (S' := fun i => (Value.slice ob2 out2.length ocap2).ownBlock = some i) fun i h => h.elim).grown hg6 fun k hk => .inl hk
        have F6b := Lib.hid (show BatsR (fun b => lo ≤ b ∧ b < hi) w6 (.slice (some A2) f.length cap2) f from HVQ.out.fr hfr6 fun x hx e => by have h1 := OB.out x e; have h2 : lo ≤ x ∧ x < hi := hx; omega)
        have OB6 := Lib.hid (show ∀ g, v6.ownBlock = some g → g < lo ∨ hi ≤ g from fun g hg => by
         rcases hb6 with h | h
         ·rw [h] at hg; exact OB.out g hg
         ·rw [h] at hg
          injection hg with hg
          have h7 := FR5.out.size
          have h8 := HHI.out
          try simp at h7 hg
          omega)
        have SZ6 := Lib.hid (show hi ≤ w6.heap.size from Nat.le_trans HHI.out hfr6.size)
        clear ho6 hg6 hb6 hfr6
        go_wp2_with fail
        go_roundw
        case rel => exact ⟨q + 1, mq + bsz b, out2 ++ [b], by go_num, hlt2, by rw [HZ.out], MP.out, OB6.out, F6b.out, SZ6.out⟩
        case measure => simp [intOf]; omega
end
end Go.Proofs.YtdlnafhhkpklmaaGreatDoor
/- A file is written by way of another one: laws, the closures, the walk of write. -/
namespace Go.Proofs.YtdlnafhhkpklmaaGreatDoor
open Go.RowKit Go.Fm Go.BigFrame Go.Shelf Go.Maps
set_option linter.unusedVariables false
set_option linter.unusedSimpArgs false
set_option maxRecDepth 100000
section
variable {B : Nat} {w w' wA w0 w1 w2 w3 wr : World} {lb db mb : Nat} {p : ByteArray} {lim ev : Nat} {beg : Int} {es es' : List PE} {own own' : Bool} {L L' L2 : List Row} {S S' : Nat → Prop} {room used fuse used' fuse' used2 : Int} {F F' F2 : ByteArray → ByteArray × Nat} {G : Nat → Prop} {n j k : Nat} {nm t way bytes name : ByteArray}
theorem in_some {r : Row} (hr : r ∈ L) : (getL L r.1).isSome = true := getL_in.2 (List.mem_map.2 ⟨r, hr, rfl⟩)
theorem DkN.post (h : DkN w db mb room used L F) (hp : DkPost w db mb room used' (-1) L F nm t n w') (hu : used' = used + t.size - (curF L F nm).1.size) (hn : n ≤ t.size) (hr : used' ≤ room) (hrm : room ≤ 4194304) :
  ∃ L', DkN w' db mb room used' L' (updF F nm t n) ∧ HasNew L L' nm ∧ (∀ i, DkS db mb L' i → DkS db mb L i ∨ (w.heap.size ≤ i ∧ i < w'.heap.size)) ∧ Fr (DkS db mb L) w w' ∧ L'.length ≤ L.length + 1 := by
 obtain ⟨L', hd, h1, h2, h3, hf⟩ := hp
 have hI := HasNew.of h1 h2
 have hus : used' = usd L' (updF F nm t n) := by
  have h4 := h.us
  cases e : getL L nm with
  | some fb =>
   have h5 := usd_upd (F := F) (nm := nm) (t := t) (n := n) h.dk.m.1.nodup ⟨_, getL_some e, rfl⟩
   rw [curF_some e] at hu
   rw [h1 ⟨fb, e⟩]
   omega
  | none =>
   obtain ⟨fb, h5⟩ := h2 e
   rw [curF_none e] at hu
   rw [h5, getL_put_row e]
   have h6 : usd L (updF F nm t n) = usd L F := usd_congr fun r hr => by
    rw [updF_ne]
    intro e2
    have h7 := in_some hr
    rw [e2, e] at h7
    cases h7
   unfold usd at h6 h4 ⊢
   rw [List.map_cons, List.sum_cons, h6]
   dsimp only
   rw [updF_same]
   have h8 : ((ByteArray.empty, 0) : ByteArray × Nat).1.size = 0 := rfl
   rw [h8] at hu
   dsimp only
   omega
 have hu0 : 0 ≤ used' := by omega
 refine ⟨L', ⟨hd, ⟨hu0, by omega, h.ok.fw, fun r hr => ?_⟩, hus, hr⟩, hI, h3, hf, ?_⟩
 ·have h4 := usd_mem (F := updF F nm t n) hr
  refine ⟨by omega, ?_⟩
  by_cases e : r.1 = nm
  ·rw [e, updF_same]; exact hn
  ·rw [updF_ne e]
   have h5 := in_some hr
   rw [hI.eq e] at h5
   obtain ⟨fb, h6⟩ := Option.isSome_iff_exists.1 h5
   exact (h.ok.fs _ (getL_some h6)).2
 ·cases e : getL L nm with
  | some fb => rw [h1 ⟨fb, e⟩]; omega
  | none => obtain ⟨fb, h5⟩ := h2 e; rw [h5, getL_put_row e, List.length_cons]; omega
end
end Go.Proofs.YtdlnafhhkpklmaaGreatDoor
/- A log begins at a place: laws, closures, the walk of begin. -/
namespace Go.Proofs.YtdlnafhhkpklmaaGreatDoor
open Go.RowKit Go.Fm Go.BigFrame Go.Shelf Go.Maps
set_option linter.unusedVariables false
set_option linter.unusedSimpArgs false
set_option maxRecDepth 100000
section
variable {B : Nat} {w w' wA w0 w1 w2 w3 wr : World} {lb db mb : Nat} {p : ByteArray} {lim ev : Nat} {beg at' : Int} {es es' : List PE} {own own' : Bool} {L L' L2 : List Row} {S S' : Nat → Prop} {room used fuse used' fuse' used2 : Int} {F F' F2 F1 : ByteArray → ByteArray × Nat} {G : Nat → Prop} {n j k : Nat} {nm t way bytes name : ByteArray} {sv : Value}
theorem Lg.lbap (h : Lg B w lb db mb p lim ev beg es own L S) : ¬ DkS db mb L lb ∧ S lb := by
 obtain ⟨sv, G, hV, hSS⟩ := h
 exact ⟨hV.ap lb (.inl rfl), (hSS lb).2 (.inl rfl)⟩
end
end Go.Proofs.YtdlnafhhkpklmaaGreatDoor
/- A log keeps at most so many bytes: laws, and the walk of Retain; the walk of After. -/
namespace Go.Proofs.YtdlnafhhkpklmaaGreatDoor
open Go.RowKit Go.Fm Go.BigFrame Go.Shelf Go.Maps
set_option linter.unusedVariables false
set_option linter.unusedSimpArgs false
set_option maxRecDepth 100000
section
variable {B : Nat} {w w' wA w0 w1 w2 w3 wr : World} {lb db mb : Nat} {p : ByteArray} {lim ev : Nat} {beg beg' at' : Int} {es es' : List PE} {own own' : Bool} {L L' L2 : List Row} {S S' : Nat → Prop} {room used fuse used' fuse' used2 most : Int} {F F' F2 F1 : ByteArray → ByteArray × Nat} {G : Nat → Prop} {n j k : Nat} {nm t way bytes name : ByteArray} {sv : Value}
end
end Go.Proofs.YtdlnafhhkpklmaaGreatDoor
