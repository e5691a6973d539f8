/- PlogSame: laws and the walk. -/
import Derived.Test.YtdlnafhhkpklmaaGreatDoorRS
import Derived.Test.YtdlnafhhkpklmaaGreatDoorGD
namespace Go.Proofs.YtdlnafhhkpklmaaGreatDoor
open Go.RowKit Go.Fm Go.BigFrame Go.Shelf Go.Maps
set_option linter.unusedVariables false
set_option linter.unusedSimpArgs false
set_option maxRecDepth 100000

section
variable {B : Nat} {w w' w1 w2 : World} {la lb db mb : Nat} {p q : ByteArray} {lim ev lim' ev' : Nat} {beg beg' at' : Int} {es ea eb : List PE} {own own' : Bool} {L L' : List Row} {S S' Sa Sb : Nat → Prop} {room used used' fuse fuse' : Int} {F F' : ByteArray → ByteArray × Nat} {n n' : Nat}
/-- What an Append answers. -/
def ApNC (b : Bat) (E N C : Int) : Prop := (BatOK (baseB b E) → N = E ∧ C = 0) ∧ (¬ BatOK (baseB b E) → N = 0 ∧ C = 1)
theorem ApNC.one {b : Bat} {E N C N' C' : Int} (h : ApNC b E N C) (h' : ApNC b E N' C') : N' = N ∧ C' = C := by
  by_cases hb : BatOK (baseB b E)
  · obtain ⟨h1, h2⟩ := h.1 hb
    obtain ⟨h3, h4⟩ := h'.1 hb
    exact ⟨h3.trans h1.symm, h4.trans h2.symm⟩
  · obtain ⟨h1, h2⟩ := h.2 hb
    obtain ⟨h3, h4⟩ := h'.2 hb
    exact ⟨h3.trans h1.symm, h4.trans h2.symm⟩
open Classical in
/-- One batch of the caller's more, whether it fits or not. -/
theorem any_append2 {b : Bat} (D : LogD B w lb db mb p lim ev 0 es true L S room used (-1) F n) (hn : n < 699) (hroom : used + 16068 ≤ room) (hsm : SmallB b) (hst : StepsOK w) (K : Nat → Prop) (hK : ∀ k, K k → ¬ S k ∧ ¬ DkS db mb L k) (v : Value) (hr : RecsR K w v b.recs) (sy : Bool) :
    Calls Tryz.prog 13 #[.pointer (some ⟨lb, 0, none⟩), batV b v, .bool sy] w fun e w' => ∃ N C es' L' S' F' used', e = .returned (.tuple #[.int .i64 N, .int .i64 C]) ∧ ApNC b (lgEnd 0 es) N C ∧ LogD B w' lb db mb p lim ev 0 es' true L' S' room used' (-1) F' (n + 2) ∧ used' ≤ used + 16068 ∧
      catE es' = catE es ++ (if BatOK (baseB b (lgEnd 0 es)) then [baseB b (lgEnd 0 es)] else []) ∧ lgEnd 0 es' = (if BatOK (baseB b (lgEnd 0 es)) then lgEnd 0 es + b.span else lgEnd 0 es) ∧ (sy = true → BatOK (baseB b (lgEnd 0 es)) → LastSafe p (segsOf es') L' F') ∧ (¬ BatOK (baseB b (lgEnd 0 es)) → segsOf es' = segsOf es) ∧ (BatOK (baseB b (lgEnd 0 es)) → segsOf es' = appS lim ev 0 (segsOf es) (baseB b (lgEnd 0 es))) ∧ Others p L F L' F' ∧ Foot db mb w w' S L S' L' ∧ Fr (fun i => S i ∨ DkS db mb L i) w w' := by
  refine (lapp D hn hst K hK b v hr sy).mono ?_
  rintro e w1 ⟨c, a, es', L', S', us', fu', F', rfl, hD, hot, hsf, hfo, hfr, ha, hna, hca, -, hno, hfu, hls⟩
  obtain ⟨rfl, hc⟩ := hfu rfl
  by_cases hb : BatOK (baseB b (lgEnd 0 es))
  · have hsz : bsz (baseB b (lgEnd 0 es)) ≤ 16068 := bsz_small hb (hsm.recs_eq rfl)
    obtain rfl := hc hb (by omega)
    obtain rfl := hca rfl
    obtain ⟨h1, h2⟩ := ha rfl
    have hcat : catE es' = catE es ++ [baseB b (lgEnd 0 es)] := by
      unfold catE
      rw [h1, catL_app]
    refine ⟨lgEnd 0 es, 0, es', L', S', F', us', rfl, ⟨fun _ => ⟨rfl, rfl⟩, fun h => absurd hb h⟩, hD, by omega, by rw [if_pos hb]; exact hcat, ?_, fun h _ => hls rfl h, fun h => absurd hb h, fun _ => h1, hot, hfo, hfr⟩
    rw [if_pos hb, ssEnd_segs 0 es', h1, ssEnd_app]
    rfl
  · obtain ⟨rfl, hse⟩ := hno hb
    have ha0 : a = false := by
      cases a with
      | false => rfl
      | true =>
        obtain ⟨h1, -⟩ := ha rfl
        refine absurd (hD.cat_ok _ ?_) hb
        unfold catE
        rw [h1, catL_app]
        simp
    subst ha0
    obtain ⟨h1, h2, h3⟩ := hna rfl
    exact ⟨0, 1, es', L', S', F', us', rfl, ⟨fun h => absurd h hb, fun _ => ⟨rfl, rfl⟩⟩, hD, by omega, by rw [if_neg hb, List.append_nil]; exact h1, by rw [if_neg hb]; exact h2, fun _ h => absurd h hb, fun _ => hse, fun h => absurd h hb, hot, hfo, hfr⟩
theorem mine_head {nm : ByteArray} (hp : 1 ≤ p.size) (h : mine p nm) : nm.data.toList.head? = p.data.toList.head? := by
  have h0 : p.data.toList ≠ [] := fun e => by
    have h1 : p.size = p.data.toList.length := by rw [Array.length_toList]; rfl
    rw [e] at h1
    rw [h1] at hp
    exact absurd hp (by decide)
  have h2 : ∀ l : List UInt8, (p.data.toList ++ l).head? = p.data.toList.head? := fun l => by
    cases e : p.data.toList with
    | nil => exact absurd e h0
    | cons a t => rfl
  rcases h with h | h | h | h
  · unfold Lib.hasPrefix at h
    rw [List.isPrefixOf_iff_prefix] at h
    obtain ⟨t, ht⟩ := h
    rw [← ht, dash_list, List.append_assoc]
    exact h2 _
  · rw [h]; unfold startS; rw [append_list]; exact h2 _
  · rw [h]; unfold freshS; rw [append_list]; exact h2 _
  · rw [h]; unfold swapS; rw [append_list]; exact h2 _
theorem LogD.inn (Da : LogD B w la db mb p lim ev beg ea own L Sa room used fuse F n) (Db : LogD B w' lb db mb q lim' ev' beg' eb own' L' Sb room used' fuse' F' n') (hlg : Lg B w' la db mb p lim ev beg ea own L' Sa) (hfl : LgF p beg (segsOf ea) L' F') (hn : n ≤ n') : LogD B w' la db mb p lim ev beg ea own L' Sa room used' fuse' F' n' :=
  ⟨hlg, Db.dk, Db.ok, Db.us, Db.ur, Db.rm, hfl, Db.dl, Db.b1, Db.nL, Nat.le_trans Da.nE hn, Nat.le_trans Da.nB hn, Db.n1, Da.be⟩
/-- A log beside one that has changed, on the same disk. -/
theorem LogD.beside (Da : LogD B w la db mb p lim ev beg ea own L Sa room used fuse F n) (Db : LogD B w' lb db mb q lim' ev' beg' eb own' L' S' room used' fuse' F' n') (hf : Fr (fun i => Sb i ∨ DkS db mb L i) w w') (hap : ∀ i, Sa i → ¬ Sb i) (ho : Others q L F L' F') (hpq : ∀ nm, mine p nm → ¬ mine q nm) (hfo : Foot db mb w w' Sb L S' L') (hn : n ≤ n') : LogD B w' la db mb p lim ev beg ea own L' Sa room used' fuse' F' n' := by
  refine Da.inn Db ((Da.lg.fr hf fun i hi h => h.elim (hap i hi) (Da.lg.ap hi)).table fun i hi => ?_) (Da.fl.other ho hpq) hn
  rcases hfo.2 i hi with h | h
  · exact .inl h
  · exact .inr fun hs => by have := (Da.lg.lt hs).2; omega
theorem LgF.none (p : ByteArray) (F : ByteArray → ByteArray × Nat) : LgF p 0 [] [] F :=
  ⟨fun s hs => (by cases hs), fun s hs => (by cases hs), fun nm h => (by cases h), .inl ⟨rfl, rfl⟩, .nil, fun s hs => (by cases hs), fun s hs => (by cases hs)⟩
def lA : ByteArray := ⟨#[97]⟩
def lB : ByteArray := ⟨#[98]⟩
theorem mine_ab (nm : ByteArray) (h : mine lA nm) : ¬ mine lB nm := fun h2 => by
  have h3 := mine_head (by decide) h
  have h4 := mine_head (by decide) h2
  rw [h3] at h4
  exact absurd h4 (by decide)
theorem mine_ba (nm : ByteArray) (h : mine lB nm) : ¬ mine lA nm := fun h2 => mine_ab nm h2 h
/-- Two logs on one disk, with the same batches. -/
structure TwoL (B : Nat) (w : World) (la lb db mb : Nat) (ea eb : List PE) (L : List Row) (Sa Sb : Nat → Prop) (used : Int) (F : ByteArray → ByteArray × Nat) (n : Nat) : Prop where
  a : LogD B w la db mb lA 50 1 0 ea true L Sa 400000 used (-1) F n
  b : LogD B w lb db mb lB 100000 1000 0 eb true L Sb 400000 used (-1) F n
  ap : ∀ i, Sa i → ¬ Sb i
  cat : catE ea = catE eb
  en : lgEnd 0 ea = lgEnd 0 eb
theorem TwoL.old (h : TwoL B w la lb db mb ea eb L Sa Sb used F n) (hf : Fr (fun _ => False) w w') : TwoL B w' la lb db mb ea eb L Sa Sb used F n := ⟨h.a.old hf, h.b.old hf, h.ap, h.cat, h.en⟩
theorem size_cat : ∀ ss : List Seg, sizeS ss = sumB (catL ss)
  | [] => rfl
  | s :: ss => by
    have ih := size_cat ss
    unfold sizeS catL at ih ⊢
    rw [List.map_cons, List.sum_cons, ih, List.flatMap_cons, sumB_app]
theorem lgSize_cat (es : List PE) : lgSize es = sumB (catE es) := by rw [lgSize_segs, size_cat]; rfl
/-- What is read, and how it is answered. -/
def rdOut (from' en : Int) : Prop := from' < 0 ∨ en < from'
instance (from' en : Int) : Decidable (rdOut from' en) := by unfold rdOut; infer_instance
def rdC (from' en : Int) : Int := if rdOut from' en then 12 else 0
def rdL (l : List Bat) (from' most en : Int) : List Bat := if rdOut from' en then [] else pick from' most l 0 []
theorem rdL_sub {l : List Bat} {from' most en : Int} : (∀ b ∈ rdL l from' most en, b ∈ l) ∧ (rdL l from' most en).length ≤ l.length := by
  unfold rdL
  split
  · exact ⟨fun b hb => (by cases hb), Nat.zero_le _⟩
  · have h := pick_sub from' most l 0 []
    exact ⟨fun b hb => (h.1 b hb).elim (fun h => by cases h) id, by have := h.2; simpa using this⟩
theorem lread_any (h : LogD B w lb db mb p lim ev 0 es own L S room used fuse F n) (hst : StepsOK w) (from' most : Int) : Calls Tryz.prog 18 #[.pointer (some ⟨lb, 0, none⟩), .int .i64 from', .int .i64 most] w fun e w' =>
    ∃ oa cap, e = .returned (.tuple #[.slice oa (rdL (catE es) from' most (lgEnd 0 es)).length cap, .int .i64 (rdC from' (lgEnd 0 es))]) ∧ BatsR (fun _ => True) w' (.slice oa (rdL (catE es) from' most (lgEnd 0 es)).length cap) (rdL (catE es) from' most (lgEnd 0 es)) ∧ Fr (fun _ => False) w w' := by
  refine (lread_walk h hst from' most).mono ?_
  intro e w1 hp
  unfold rdL rdC
  rcases hp with ⟨h1, rfl, hf⟩ | ⟨h1, h2, v, rfl, hv, -, hf⟩
  · rw [if_pos (show rdOut from' (lgEnd 0 es) from h1), if_pos (show rdOut from' (lgEnd 0 es) from h1)]
    exact ⟨none, 0, rfl, bats_none none 0, hf⟩
  · have h3 : ¬ rdOut from' (lgEnd 0 es) := by unfold rdOut; omega
    rw [if_neg h3, if_neg h3]
    have hv2 := hv
    obtain ⟨oa, cap, rfl, -⟩ := hv2
    exact ⟨oa, cap, rfl, hv.mono fun _ _ _ => trivial, hf⟩
structure ReadsAt (w : World) (pb : Nat) (v : Value) (fr mo ti : Int) : Prop where
  a0 : w.cell? ⟨pb, 0, none⟩ = some v
  a1 : w.cell? ⟨pb, 1, none⟩ = some (.int .i64 fr)
  a2 : w.cell? ⟨pb, 2, none⟩ = some (.int .i64 mo)
  a3 : w.cell? ⟨pb, 3, none⟩ = some (.int .i64 ti)
def readsV (v : Value) (fr mo ti : Int) : Value := .agg #[v, .int .i64 fr, .int .i64 mo, .int .i64 ti]
theorem TwoL.new (hA : LogD B w la db mb lA 50 1 0 [] true [] Sa 400000 used (-1) F n) (hB : LogD B w' lb db mb lB 100000 1000 0 [] true [] Sb 400000 0 (-1) F' 0) (hf : Fr (fun i => i = db ∨ i = mb) w w') (hn : n = 0) (hS : ∀ i, Sb i → w.heap.size ≤ i) : TwoL B w' la lb db mb [] [] [] Sa Sb 0 F' 0 := by
  subst hn
  refine ⟨hA.inn hB (hA.lg.fr hf fun i hi h => hA.lg.ap hi (h.imp id .inl)) (LgF.none _ _) (Nat.le_refl _), hB, fun i h1 h2 => by have := (hA.lg.lt h1).2; have := hS i h2; omega, rfl, rfl⟩
set_option maxHeartbeats 32000000 in
theorem psame_walk (l : List Bat) (v : Value) (fr mo ti : Int) (w : World) (hl : BatsR (fun _ => True) w v l) (hst : StepsOK w) (hw0 : 1 ≤ w.heap.size) :
    Calls Tryz.prog 6 #[readsV v fr mo ti] w fun e w' => e = .returned (.bool true) ∧ Fr (fun _ => False) w w' := by
  have hl2 := hl.mono (K' := fun b => b < w.heap.size) fun b _ h => h
  clear hl
  obtain ⟨oa, cap, rfl, hl3⟩ := hl2
  unfold readsV
  have hfa := (Fr.same w).alloc (.cells #[.slice oa l.length cap, .int .i64 fr, .int .i64 mo, .int .i64 ti] 57)
  have hsa : (w.alloc (.cells #[.slice oa l.length cap, .int .i64 fr, .int .i64 mo, .int .i64 ti] 57)).heap.size = w.heap.size + 1 := by simp
  have x0 : ∀ y : Lcl.InS (fun w' => Fr (fun _ => False) (w.alloc (.cells #[.slice oa l.length cap, .int .i64 fr, .int .i64 mo, .int .i64 ti] 57)) w'), y.w.cell? ⟨w.heap.size, 0, none⟩ = some (.slice oa l.length cap) := fun y => y.h.cel (cell_alloc_new w _ 57 0)
  have x1 : ∀ y : Lcl.InS (fun w' => Fr (fun _ => False) (w.alloc (.cells #[.slice oa l.length cap, .int .i64 fr, .int .i64 mo, .int .i64 ti] 57)) w'), y.w.cell? ⟨w.heap.size, 1, none⟩ = some (.int .i64 fr) := fun y => y.h.cel (cell_alloc_new w _ 57 1)
  have x2 : ∀ y : Lcl.InS (fun w' => Fr (fun _ => False) (w.alloc (.cells #[.slice oa l.length cap, .int .i64 fr, .int .i64 mo, .int .i64 ti] 57)) w'), y.w.cell? ⟨w.heap.size, 2, none⟩ = some (.int .i64 mo) := fun y => y.h.cel (cell_alloc_new w _ 57 2)
  have x3 : ∀ y : Lcl.InS (fun w' => Fr (fun _ => False) (w.alloc (.cells #[.slice oa l.length cap, .int .i64 fr, .int .i64 mo, .int .i64 ti] 57)) w'), y.w.cell? ⟨w.heap.size, 3, none⟩ = some (.int .i64 ti) := fun y => y.h.cel (cell_alloc_new w _ 57 3)
  have hfa2 := hfa.drew
  obtain ⟨oa2, cap2, e2, hl4⟩ := (show BatsR (fun b => b < w.heap.size) (w.alloc (.cells #[.slice oa l.length cap, .int .i64 fr, .int .i64 mo, .int .i64 ti] 57)).drew (.slice oa l.length cap) l from BatsR.old ⟨oa, cap, rfl, hl3⟩ hfa2)
  injection e2 with e2 _ e3
  subst e2 e3
  have HL := Lib.hid hl4
  have HST := Lib.hid (hst.old hfa2)
  have FA := Lib.hid hfa2
  have SA := Lib.hid (show w.heap.size ≤ (w.alloc (.cells #[.slice oa l.length cap, .int .i64 fr, .int .i64 mo, .int .i64 ti] 57)).drew.heap.size from hfa2.size)
  clear hl3 hl4 hst hsa hfa2 hfa
  go_enter Tryz.func6, Tryz.ntmps6
  go_wp2_with fail
  generalize hW1 : (w.alloc (.cells #[.slice oa l.length cap, .int .i64 fr, .int .i64 mo, .int .i64 ti] 57)) = W1 at *
  refine Lcl.wp_region_calm (by kernel_rfl) [(true, [0, 2, 4, 6]), (false, [1, 3, 5, 7]), (true, [8, 9, 10, 11])] #[0, 1, 0, 4, 0, 16, 0, 64, 3, 271, 831, 2047] [0, 1, 2, 3, 4, 5, 6, 7, 8, 9, 10] 0 #[true, true, true, true, true, true, true, true, true, true, true, true] (by kernel_rfl) (by kernel_rfl) (by kernel_rfl) (fun w' => Fr (fun _ => False) W1 w') (Fr.same W1).drew (fun d c a v w h => by cases d <;> exact h) ?_
  simp only [Lcl.opsOf, List.map_cons, List.map_nil, List.getElem?_toArray, List.getElem?_cons_succ, List.getElem?_cons_zero, Option.getD_some]
  refine Lcl.wpCalm_t ?_
  repeat (go_big_quiet_step (rfl))
  refine wpQuiet_nil ?_
  refine Lcl.wpCalm_f ?_
  repeat (go_big_quiet_step (rfl))
  refine wpQuiet_nil ?_
  refine Lcl.wpCalm_t ?_
  repeat (go_big_quiet_step (rfl))
  refine wpQuiet_nil ?_
  refine Lcl.wpCalm_nil ?_
  clear x0 x1 x2 x3
  refine Lcl.wpG_run [] _ _ _ (by kernel_rfl) ?_
  simp only [List.map_cons, List.map_nil, List.getElem?_toArray, List.getElem?_cons_succ, List.getElem?_cons_zero, Option.getD_some]
  generalize hW : W1.drew = W at *
  clear hW hW1
  rcases Nat.lt_or_ge 10 l.length with h8 | hlen
  · go_wp2_with fail
    refine (plive_walk _ HST.out (Nat.le_trans hw0 FA.out.size)).mono ?_
    rintro e w4 ⟨rfl, hf4⟩
    have F4 := Lib.hid (FA.out.tr hf4)
    clear hf4
    go_wp2_with fail
    go_ret
    exact ⟨rfl, F4.out⟩
  · go_wp2_with fail
    refine (dnew_n 400000 W (by omega) (by omega)).mono ?_
    rintro e w1 ⟨db, mb, rfl, hdn, hdb, hmb, hf1⟩
    have hpo := popen_new (B := W.heap.size) (p := lA) (lim := 50) (ev := 1) hdn (by omega) (Nat.le_trans hw0 FA.out.size) hdb hmb (by decide) (by decide) (by omega) (by omega) (by omega) (by omega) (HST.out.old hf1)
    unfold cfgV lA at hpo
    have HPO := Lib.hid hpo
    have F1 := Lib.hid hf1
    have HB := Lib.hid (And.intro hdb hmb)
    clear hf1 hdb hmb hdn hpo
    go_wp2_with fail
    refine HPO.out.mono ?_
    rintro e w2 ⟨la, S2, F2, rfl, hD, hS, hf2⟩
    have D2 := Lib.hid (show LogD W.heap.size w2 la db mb lA 50 1 0 [] true [] S2 400000 0 (-1) F2 0 from hD)
    have F2' := Lib.hid (show Fr (fun _ => False) W w2 from F1.out.trans hf2 fun i hi => .inr (by have := HB.out; rcases hi with rfl | rfl <;> omega))
    have hpo := popen_new (B := W.heap.size) (p := lB) (lim := 100000) (ev := 1000) D2.out.dkn (by omega) (Nat.le_trans hw0 FA.out.size) HB.out.1 HB.out.2 (by decide) (by decide) (by omega) (by omega) (by omega) (by omega) (HST.out.old F2'.out)
    unfold cfgV lB at hpo
    have HPB := Lib.hid hpo
    clear hD hS hf2 HPO hpo
    go_wp2_with fail
    refine HPB.out.mono ?_
    rintro e w3 ⟨lb, S3, F3, rfl, hD, hS, hf3⟩
    have T3 := Lib.hid (TwoL.new D2.out hD hf3 rfl hS)
    have F3' := Lib.hid (show Fr (fun _ => False) W w3 from F2'.out.trans hf3 fun i hi => .inr (by have := HB.out; rcases hi with rfl | rfl <;> omega))
    clear hD hS hf3 HPB D2 F2' F1
    go_wp2_with fail
    go_loopw [13] (fun i wr => ∃ (k : Nat) (ea eb : List PE) (L : List Row) (Sa Sb : Nat → Prop) (used : Int) (F : ByteArray → ByteArray × Nat), i = .int .i64 k ∧ k ≤ l.length ∧ TwoL W.heap.size wr la lb db mb ea eb L Sa Sb used F (4 * k) ∧ used ≤ 32136 * k ∧ Fr (fun _ => False) W wr) (fun i _ => l.length - (intOf i).toNat)
    case atStart => exact ⟨0, [], [], [], S2, S3, 0, F3, rfl, Nat.zero_le _, T3.out, by omega, F3'.out⟩
    case round =>
      obtain ⟨k, ea, eb, L, Sa, Sb, used, F, rfl, hk, hT, hu, hf⟩ := hrel
      have T := Lib.hid hT
      have FF := Lib.hid hf
      have HU := Lib.hid hu
      clear hT hf hu T3 F3'
      rcases Nat.lt_or_ge k l.length with hlt | hge
      · obtain ⟨b, hb⟩ := get_of_lt hlt
        obtain ⟨A, rv, rfl, hA, hc, hr⟩ := HL.out k b hb
        have hc1 := hc.to (FF.out.block _ hc.lt fun h => h)
        have hr1 := hr.old FF.out
        have hh := hr1
        obtain ⟨ra, rcap, rfl, -⟩ := hh
        have HC0 := Lib.hid hc
        have HR0 := Lib.hid hr
        have HC1 := Lib.hid hc1
        have HR1 := Lib.hid hr1
        obtain ⟨c0, c1, c2, c3, c4, c5⟩ := hc1
        have HSM := Lib.hid (small_walk _ b _ _ hr1)
        clear hb hc hr hr1
        unfold batV at HSM
        go_wp2_with fail
        refine HSM.out.mono ?_
        rintro e w3 ⟨c, rfl, hsm, hf3⟩
        have T3 := Lib.hid (T.out.old hf3)
        have F3 := Lib.hid (FF.out.tr hf3)
        clear hf3 HSM c0 c1 c2 c3 c4 c5 HC1 HR1 T FF
        cases c with
        | false =>
          clear hsm
          go_wp2_with fail
          refine (plive_walk _ (HST.out.old F3.out) (Nat.le_trans hw0 (FA.out.tr F3.out).size)).mono ?_
          rintro e w4 ⟨rfl, hf4⟩
          have F4 := Lib.hid (FA.out.tr (F3.out.tr hf4))
          clear hf4
          go_wp2_with fail
          go_ret
          exact ⟨rfl, F4.out⟩
        | true =>
          have SM := Lib.hid (hsm rfl)
          have HKL := Lib.hid (fun i (hi : i < w.heap.size) => show ¬ Sa i ∧ ¬ Sb i ∧ ¬ DkS db mb L i from ⟨fun h => by have := (T3.out.a.lt (.inl h)).1; have := SA.out; omega, fun h => by have := (T3.out.b.lt (.inl h)).1; have := SA.out; omega, fun h => by have := T3.out.a.dl i h; have := SA.out; omega⟩)
          have hap := any_append2 T3.out.a (by omega) (by have := HU.out; omega) SM.out (HST.out.old F3.out) _ (fun i hi => ⟨(HKL.out i hi).1, (HKL.out i hi).2.2⟩) _ (HR0.out.old F3.out) false
          obtain ⟨E, hE⟩ : ∃ E, E = lgEnd 0 ea := ⟨_, rfl⟩
          rw [← hE] at hap
          have HE := Lib.hid hE
          have HAP := Lib.hid hap
          obtain ⟨c0, c1, c2, c3, c4, c5⟩ := HC0.out.to (F3.out.block _ HC0.out.lt fun h => h)
          unfold batV at HAP
          clear hsm hap hE
          go_wp2_with fail
          refine HAP.out.mono ?_
          rintro e w5 ⟨N5, C5, ea', L5, Sa', F5, used5, rfl, hN5, hD5, hu5, hcat5, hend5, -, -, -, hot5, hfo5, hfr5⟩
          have DB := Lib.hid (T3.out.b.beside hD5 hfr5 (fun i h1 h2 => T3.out.ap i h2 h1) hot5 mine_ba hfo5 (by omega))
          have DA := Lib.hid hD5
          have hap5 : ∀ i, Sa' i → ¬ Sb i := fun i h1 h2 => by
            rcases hfo5.1 i h1 with h | h
            · exact T3.out.ap i h h2
            · have := (T3.out.b.lt (.inl h2)).2; omega
          have AP5 := Lib.hid hap5
          have F5' := Lib.hid (F3.out.trans hfr5 fun i hi => .inr (T3.out.a.lt hi).1)
          have CE5 := Lib.hid (And.intro hcat5 hend5)
          have HU5 := Lib.hid hu5
          have HN5 := Lib.hid hN5
          have hkl5 : ∀ i, i < w.heap.size → ¬ Sb i ∧ ¬ DkS db mb L5 i := fun i hi => ⟨(HKL.out i hi).2.1, fun h => by
            rcases hfo5.2 i h with h | h
            · exact (HKL.out i hi).2.2 h
            · have := (FA.out.tr F3.out).size; omega⟩
          have HKL5 := Lib.hid hkl5
          have hapb := any_append2 DB.out (by omega) (by have := HU.out; omega) SM.out (HST.out.old F5'.out) _ (fun i hi => HKL5.out i hi) _ (HR0.out.old F5'.out) true
          rw [← T3.out.en, ← HE.out] at hapb
          have HAPB := Lib.hid hapb
          clear hD5 hu5 hN5 hcat5 hend5 hot5 hfo5 hfr5 HAP c0 c1 c2 c3 c4 c5 hap5 hkl5 hapb
          obtain ⟨c0, c1, c2, c3, c4, c5⟩ := HC0.out.to (F5'.out.block _ HC0.out.lt fun h => h)
          unfold batV at HAPB
          go_wp2_with fail
          refine HAPB.out.mono ?_
          rintro e w6 ⟨N6, C6, eb', L6, Sb', F6, used6, rfl, hN6, hD6, hu6, hcat6, hend6, -, -, -, hot6, hfo6, hfr6⟩
          obtain ⟨rfl, rfl⟩ := HN5.out.one hN6
          have hT6 : TwoL W.heap.size w6 la lb db mb ea' eb' L6 Sa' Sb' used6 F6 (4 * (k + 1)) := ⟨DA.out.beside hD6 hfr6 (fun i h1 h2 => AP5.out i h1 h2) hot6 mine_ab hfo6 (by omega), hD6, fun i h1 h2 => by
            rcases hfo6.1 i h2 with h | h
            · exact AP5.out i h1 h
            · have := (DA.out.lt (.inl h1)).2; omega, by rw [CE5.out.1, hcat6, T3.out.cat], by rw [CE5.out.2, hend6]⟩
          have T6 := Lib.hid hT6
          have F6' := Lib.hid (F5'.out.trans hfr6 fun i hi => .inr (DB.out.lt hi).1)
          have HU6 := Lib.hid (show used6 ≤ 32136 * ((k + 1 : Nat) : Int) by have := HU5.out; have := HU.out; omega)
          clear hD6 hu6 hN6 hcat6 hend6 hot6 hfo6 hfr6 HAPB c0 c1 c2 c3 c4 c5 hT6 DA DB CE5
          go_wp2_with fail
          go_roundw
          case rel => exact ⟨k + 1, ea', eb', L6, Sa', Sb', used6, F6, by go_num, hlt, T6.out, HU6.out, F6'.out⟩
          case measure => simp [intOf]; omega
      · obtain rfl : k = l.length := by omega
        have hC : (catE ea).length ≤ 40 := by have h9 : (catE ea).length ≤ 4 * l.length := T.out.a.nB; omega
        have HC := Lib.hid hC
        have COK := Lib.hid T.out.a.cat_ok
        have hra := lread_any T.out.a (HST.out.old FF.out) fr mo
        obtain ⟨R, hR⟩ : ∃ R, R = rdL (catE ea) fr mo (lgEnd 0 ea) := ⟨_, rfl⟩
        obtain ⟨C, hCc⟩ : ∃ C, C = rdC fr (lgEnd 0 ea) := ⟨_, rfl⟩
        have HR := Lib.hid hR
        have HCc := Lib.hid hCc
        rw [← hR, ← hCc] at hra
        have HRA := Lib.hid hra
        clear hra hC hR hCc hk
        go_wp2_with fail
        refine HRA.out.mono ?_
        rintro e w5 ⟨oa5, cap5, rfl, hv5, hf5⟩
        have T5 := Lib.hid (T.out.old hf5)
        have F5 := Lib.hid (FF.out.tr hf5)
        have V5 := Lib.hid hv5
        have hrb := lread_any T5.out.b (HST.out.old F5.out) fr mo
        rw [← T5.out.cat, ← T5.out.en, ← HR.out, ← HCc.out] at hrb
        have HRB := Lib.hid hrb
        clear hv5 hf5 HRA hrb T FF
        go_wp2_with fail
        refine HRB.out.mono ?_
        rintro e w6 ⟨oa6, cap6, rfl, hv6, hf6⟩
        have T6 := Lib.hid (T5.out.old hf6)
        have F6 := Lib.hid (F5.out.tr hf6)
        have V5' := Lib.hid (V5.out.old hf6)
        have V6 := Lib.hid hv6
        have haa := lafter_walk T6.out.a.lg ti
        obtain ⟨X, hX⟩ : ∃ X, X = LAftV ti 0 (catE ea) := ⟨_, rfl⟩
        have HX := Lib.hid hX
        rw [← hX] at haa
        have HAA := Lib.hid haa
        clear hv6 hf6 HRB haa hX T5 F5 V5
        go_wp2_with fail
        refine HAA.out.mono ?_
        rintro e w7 ⟨rfl, hf7⟩
        have T7 := Lib.hid (T6.out.old hf7)
        have F7 := Lib.hid (F6.out.tr hf7)
        have V57 := Lib.hid (V5'.out.old hf7)
        have V67 := Lib.hid (V6.out.old hf7)
        have hab := lafter_walk T7.out.b.lg ti
        rw [← T7.out.cat, ← HX.out] at hab
        have HAB := Lib.hid hab
        clear hf7 HAA hab T6 F6 V5' V6
        go_wp2_with fail
        refine HAB.out.mono ?_
        rintro e w8 ⟨rfl, hf8⟩
        have T8 := Lib.hid (T7.out.old hf8)
        have F8 := Lib.hid (F7.out.tr hf8)
        have hsub := rdL_sub (l := catE ea) (from' := fr) (most := mo) (en := lgEnd 0 ea)
        rw [← HR.out] at hsub
        have HSM := Lib.hid (same_bats _ _ R _ _ _ (V57.out.old hf8) (V67.out.old hf8) (by have := hsub.2; have := HC.out; omega) (small_ok fun b hb => COK.out b (hsub.1 b hb)))
        clear hf8 HAB hsub T7 F7 V57 V67
        go_wp2_with fail
        refine HSM.out.mono ?_
        rintro e w9 ⟨rfl, hf9⟩
        have T9 := Lib.hid (T8.out.old hf9)
        have F9 := Lib.hid (F8.out.tr hf9)
        have HSA := Lib.hid (lsize_walk T9.out.a.lg)
        rw [lgSize_cat] at HSA
        clear hf9 HSM T8 F8
        go_wp2_with fail
        refine HSA.out.mono ?_
        rintro e w10 ⟨rfl, hf10⟩
        have T10 := Lib.hid (T9.out.old hf10)
        have F10 := Lib.hid (F9.out.tr hf10)
        have hsb := lsize_walk T10.out.b.lg
        rw [lgSize_cat, ← T10.out.cat] at hsb
        have HSB := Lib.hid hsb
        clear hf10 HSA T9 F9 hsb
        go_wp2_with fail
        refine HSB.out.mono ?_
        rintro e w11 ⟨rfl, hf11⟩
        have T11 := Lib.hid (T10.out.old hf11)
        have F11 := Lib.hid (F10.out.tr hf11)
        have HEA := Lib.hid (lend_walk T11.out.a.lg)
        clear hf11 HSB T10 F10
        go_wp2_with fail
        refine HEA.out.mono ?_
        rintro e w12 ⟨rfl, hf12⟩
        have T12 := Lib.hid (T11.out.old hf12)
        have F12 := Lib.hid (F11.out.tr hf12)
        have heb := lend_walk T12.out.b.lg
        rw [← T12.out.en] at heb
        have HEB := Lib.hid heb
        clear hf12 HEA T11 F11 heb
        go_wp2_with fail
        refine HEB.out.mono ?_
        rintro e w13 ⟨rfl, hf13⟩
        have F13 := Lib.hid (F12.out.tr hf13)
        clear hf13 HEB T12 F12
        go_wp2_with fail
        refine (plive_walk _ (HST.out.old F13.out) (Nat.le_trans hw0 (FA.out.tr F13.out).size)).mono ?_
        rintro e w14 ⟨rfl, hf14⟩
        have F14 := Lib.hid (FA.out.tr (F13.out.tr hf14))
        clear hf14
        go_wp2_with fail
        go_ret
        exact ⟨rfl, F14.out⟩
end
section
open Go.ChangeShapes Go.WideShapes Go.ChangeAt Go.Joins Go.Deep
theorem z22 : Tryz.prog.cellsOf 22 = 1 := by kernel_rfl
variable {H : Type} {enc : TypeId × Value → H} {W : World} {spare : Nat → Bool} {held : Bool}
theorem reads_fields {m : Nat} {cs : List Value} {x : DataW H × List MemPlace} (h : DataW.trod enc Tryz.prog W 0 spare held m 57 cs = some x) (hlen : cs.length = 4) :
    ∃ v0 fr mo ti bs, cs = [v0, .int .i64 fr, .int .i64 mo, .int .i64 ti] ∧ BatsR (fun _ => True) W v0 bs := by
  obtain ⟨xs, n', _, _, hcl, hxl, hf⟩ := DataW.trod_struct Tryz.underlying57 h
  have hx4 : xs.length = 4 := hxl.trans (by kernel_rfl)
  clear hxl
  match cs, hlen, xs, hx4 with
  | [v0, v1, v2, v3], _, [y0, y1, y2, y3], _ =>
    have t0 := hf 0
    have t1 := hf 1
    have t2 := hf 2
    have t3 := hf 3
    simp [q3, z22] at t0 t1 t2 t3
    obtain ⟨n1, e1, -, -⟩ := DataW.trod_int Tryz.underlying3 t1
    obtain ⟨n2, e2, -, -⟩ := DataW.trod_int Tryz.underlying3 t2
    obtain ⟨n3, e3, -, -⟩ := DataW.trod_int Tryz.underlying3 t3
    obtain ⟨bs, hb, -⟩ := bats_of t0
    simp only [List.cons.injEq, and_true] at e1 e2 e3
    subst e1 e2 e3
    exact ⟨v0, n1, n2, n3, bs, rfl, hb⟩
theorem reads_of {r : Reach} {b0 : Nat} {v : Value} {d : DataW H} {p : List MemPlace} (hv : Value.okWide Tryz.prog W r b0 57 v) (h : DataW.Trod enc Tryz.prog W 0 spare held 57 v d p) :
    ∃ v0 fr mo ti bs, v = readsV v0 fr mo ti ∧ BatsR (fun _ => True) W v0 bs := by
  obtain ⟨cs, rfl, hsz⟩ := okWide_struct Tryz.underlying57 hv
  obtain ⟨l⟩ := cs
  obtain ⟨fuel, hf⟩ := h
  have hl : l.length = 4 := hsz.trans (by kernel_rfl)
  obtain ⟨v0, fr, mo, ti, bs, he, ho⟩ := reads_fields hf hl
  exact ⟨v0, fr, mo, ti, bs, by unfold readsV; have e : l = _ := he; rw [e], ho⟩
end
end Go.Proofs.YtdlnafhhkpklmaaGreatDoor
