/- read, Apply of a table: the walks. -/
import Derived.Test.YtdgdhegbcjimbaaT3
import Derived.Test.YtdgdhegbcjimbaaT2
import Derived.ChangeKeysEq
namespace Go.Proofs.Ytdgdhegbcjimbaa
open Go.RowKit Go.Fm Go.BigFrame
set_option linter.unusedVariables false
set_option linter.unusedSimpArgs false

theorem info25 : (Try.prog.info? 25).map (fun i => (i.zero, i.size, i.bytes)) = some (some (.int .i64 0), 1, 8) := by kernel_rfl
theorem arr_eq (e0 e1 e2 e3 : Int) (w : World) : (binOp .eql 82 (.agg #[.int .i64 e0, .int .i64 e1, .int .i64 e2, .int .i64 e3]) (.agg #[.int .i64 0, .int .i64 0, .int .i64 0, .int .i64 0])).run Try.prog w = .ok (.bool (e0 == 0 && e1 == 0 && e2 == 0 && e3 == 0)) w := by
  obtain ⟨d, hd⟩ : ∃ d, Op.maxDepth = d + 1 + 1 := ⟨9998, rfl⟩
  obtain ⟨i, hi, hz, h1, h2⟩ := info_parts info25
  have hagg : ∀ w, (isAgg 25).run Try.prog w = .ok false w := fun w => by kernel_rfl
  have hsz : ∀ w, (sizeOf 25).run Try.prog w = .ok 1 w := fun w => by kernel_rfl
  have hc : Try.prog.cellsOf 25 = 1 := by kernel_rfl
  have hu : (Op.equalIn (d + 1 + 1) 82 (.agg #[.int .i64 e0, .int .i64 e1, .int .i64 e2, .int .i64 e3]) (.agg #[.int .i64 0, .int .i64 0, .int .i64 0, .int .i64 0])).run Try.prog w = .ok (e0 == 0 && (e1 == 0 && (e2 == 0 && e3 == 0))) w := by
    rw [run_equalIn_array (P := Try.prog) (w := w) (d := d + 1) (hu := Try.underlying82) (hi := hi), hc]
    have hr : List.range 4 = [0, 1, 2, 3] := rfl
    have he : ∀ (a b : Int) (w : World), (Op.equalIn (d + 1) 25 (.int .i64 a) (.int .i64 b)).run Try.prog w = .ok (a == b) w := fun a b w => run_equalIn_int w d 25 .i64 .i64 a b Try.underlying25
    rw [hr]
    cases h0 : (e0 == 0) <;> cases h1 : (e1 == 0) <;> cases h2 : (e2 == 0) <;> simp [Op.eqItems, part, hagg, he, Sem.run_bind, Result.andThen, h0, h1, h2]
    all_goals (cases h3 : (e3 == 0) <;> simpa using h3)
  simp only [binOp, Op.equal, hd]
  simp [hu, Bool.and_assoc]
theorem three_new (w : World) (A B C : Obj) : (((w.alloc A).alloc B).alloc C).heap[w.heap.size]? = some A ∧ (((w.alloc A).alloc B).alloc C).heap[w.heap.size + 1]? = some B ∧ (((w.alloc A).alloc B).alloc C).heap[w.heap.size + 1 + 1]? = some C := by
  have h1 := heap_alloc_self (w.alloc A) B
  have h2 := heap_alloc_self ((w.alloc A).alloc B) C
  rw [World.size_alloc] at h1
  rw [World.size_alloc, World.size_alloc] at h2
  exact ⟨(heap_alloc_lt _ (by simp; omega)).trans ((heap_alloc_lt _ (by simp)).trans (heap_alloc_self w A)), (heap_alloc_lt _ (by simp)).trans h1, h2⟩
structure RdS (b0 b1 b2 b8 : Nat) (o0 o1 o2 o8 : Obj) (w : World) : Prop where
  b0 : w.heap[b0]? = some o0
  b1 : w.heap[b1]? = some o1
  b2 : w.heap[b2]? = some o2
  b8 : w.heap[b8]? = some o8
def rdOK (e0 e1 e2 e3 f to3 last : Int) (n : Nat) (rbare : Bool) (rat a : Int) (rkey rval Rkey : ByteArray) : Bool :=
  (e0 == 0 && e1 == 0 && e2 == 0 && e3 == 0) && (f == 0) && ((to3 == (rkey.size : Int) && last == (rval.size : Int) && n == 0 && !rbare) && rat == 0) && decide (0 ≤ a) && (Rkey.toList == rkey.toList)
/-- What 'read' makes of a record. -/
def rdKeep (r : Rec) (n : Nat) : Key × Int × Bool :=
  let A := takeS r.key 0 100; let B := takeS r.key A.2.1 100; let C := getS r.key B.2.1; let D := getS r.val 0
  let E := entS ⟨A.1, B.1, C.1⟩ D.1 r.tm
  (⟨A.1, B.1, C.1⟩, D.1, rdOK A.2.2 B.2.2 C.2.2 D.2.2 E.2 C.2.1 D.2.1 n r.bare r.at' D.1 r.key r.val E.1.key)
def rdGone (r : Rec) (n : Nat) : Key × Int × Bool :=
  let A := takeS r.key 0 100; let B := takeS r.key A.2.1 100; let C := getS r.key B.2.1
  let E := entS ⟨A.1, B.1, C.1⟩ (-1) r.tm
  (⟨A.1, B.1, C.1⟩, 0, rdOK A.2.2 B.2.2 C.2.2 0 E.2 C.2.1 0 n r.bare r.at' 0 r.key r.val E.1.key)
set_option maxRecDepth 100000 in
set_option maxHeartbeats 40000000 in
theorem read_keep (r : Rec) (oa : Option Addr) (n cap : Nat) (w : World) (hk : r.key.size ≤ maxLen) (hv : r.val.size ≤ maxLen) (hg : r.gone = false) :
    Calls Try.prog 23 #[recV r (.slice oa n cap)] w fun e w' => e = .returned (.tuple #[keyV (rdKeep r n).1, .int .i64 (rdKeep r n).2.1, .bool (rdKeep r n).2.2]) ∧ Fr (fun _ => False) w w' := by
  obtain ⟨rat, rtm, rbare, rkey, rgone, rval, rhs⟩ := r
  dsimp only at hk hv hg
  subst hg
  have HRES : Hid (rdKeep ⟨rat, rtm, rbare, rkey, false, rval, rhs⟩ n = rdKeep ⟨rat, rtm, rbare, rkey, false, rval, rhs⟩ n) := Lib.hid rfl
  obtain ⟨g, to1, e0, h1⟩ : ∃ g to1 e0, takeS rkey 0 100 = (g, to1, e0) := ⟨_, _, _, rfl⟩
  obtain ⟨t, to2, e1, h2⟩ : ∃ t to2 e1, takeS rkey to1 100 = (t, to2, e1) := ⟨_, _, _, rfl⟩
  obtain ⟨i, to3, e2, h3⟩ : ∃ i to3 e2, getS rkey to2 = (i, to3, e2) := ⟨_, _, _, rfl⟩
  obtain ⟨a, last, e3, h4⟩ : ∃ a last e3, getS rval 0 = (a, last, e3) := ⟨_, _, _, rfl⟩
  have hrd : rdKeep ⟨rat, rtm, rbare, rkey, false, rval, rhs⟩ n = (⟨g, t, i⟩, a, rdOK e0 e1 e2 e3 (entS ⟨g, t, i⟩ a rtm).2 to3 last n rbare rat a rkey rval (entS ⟨g, t, i⟩ a rtm).1.key) := by
    unfold rdKeep
    dsimp only
    rw [h1]; dsimp only
    rw [h2]; dsimp only
    rw [h3]; dsimp only
    rw [h4]
  rw [hrd]
  unfold recV
  dsimp only
  have C1 := fun w => takes_walk rkey 0 100 w hk
  have C2 := fun w => takes_walk rkey to1 100 w hk
  have C3 := fun w => gets_walk rkey to2 w hk
  have C4 := fun w => gets_walk rval 0 w hv
  unfold TakeSPost at C1 C2
  unfold GetSPost at C3 C4
  rw [h1] at C1
  rw [h2] at C2
  rw [h3] at C3
  rw [h4] at C4
  have D1 := Lib.hid C1
  have D2 := Lib.hid C2
  have D3 := Lib.hid C3
  have D4 := Lib.hid C4
  clear C1 C2 C3 C4 h1 h2 h3 h4 hrd HRES
  go_enter Try.func23, Try.ntmps23
  go_wp2_with fail
  refine (D1.out _).mono ?_
  rintro e w' ⟨rfl, rfl⟩
  go_wp2_with fail
  refine (D2.out _).mono ?_
  rintro e w' ⟨rfl, rfl⟩
  go_wp2_with fail
  refine (D3.out _).mono ?_
  rintro e w' ⟨rfl, rfl⟩
  go_wp2_with fail
  refine (D4.out _).mono ?_
  rintro e w' ⟨rfl, rfl⟩
  go_wp2_with fail
  obtain ⟨R, f, hent⟩ : ∃ R f, entS ⟨g, t, i⟩ a rtm = (R, f) := ⟨_, _, rfl⟩
  have hcall := entry_walk ⟨g, t, i⟩ a rtm (((w.alloc (.cells #[.int .i64 rat, .int .i64 rtm, .bool rbare, .string rkey, .bool false, .string rval, .slice oa n cap] 32)).alloc (.cells #[.string g, .string t, .int .i64 i] 36)).alloc (.cells #[.int .i64 e0, .int .i64 e1, .int .i64 e2, .int .i64 e3] 82))
  rw [hent] at hcall
  unfold keyV recV at hcall
  dsimp only at hcall
  refine hcall.mono ?_
  rintro e w2 ⟨rfl, hf⟩
  obtain ⟨Rat, Rtm, Rbare, Rkey, Rgone, Rval, Rhs⟩ := R
  dsimp only at hcall hent ⊢
  obtain ⟨n0, n1, n2⟩ := three_new w (.cells #[.int .i64 rat, .int .i64 rtm, .bool rbare, .string rkey, .bool false, .string rval, .slice oa n cap] 32) (.cells #[.string g, .string t, .int .i64 i] 36) (.cells #[.int .i64 e0, .int .i64 e1, .int .i64 e2, .int .i64 e3] 82)
  have b0 := (hf.block w.heap.size (lt_of_heap n0) fun h => h).trans n0
  have b1 := (hf.block (w.heap.size + 1) (lt_of_heap n1) fun h => h).trans n1
  have b2 := (hf.block (w.heap.size + 1 + 1) (lt_of_heap n2) fun h => h).trans n2
  have hsz := hf.size
  simp at hsz
  have hfa := (Fr.same w2).alloc (.cells #[.int .i64 Rat, .int .i64 Rtm, .bool Rbare, .string Rkey, .bool Rgone, .string Rval, .slice none 0 0] 32)
  have BB0 := (hfa.block _ (lt_of_heap b0) fun h => h).trans b0
  have BB1 := (hfa.block _ (lt_of_heap b1) fun h => h).trans b1
  have BB2 := (hfa.block _ (lt_of_heap b2) fun h => h).trans b2
  have BB8 := heap_alloc_self w2 (.cells #[.int .i64 Rat, .int .i64 Rtm, .bool Rbare, .string Rkey, .bool Rgone, .string Rval, .slice none 0 0] 32)
  have FW := Lib.hid ((((((Fr.same w).alloc (.cells #[.int .i64 rat, .int .i64 rtm, .bool rbare, .string rkey, .bool false, .string rval, .slice oa n cap] 32)).alloc (.cells #[.string g, .string t, .int .i64 i] 36)).alloc (.cells #[.int .i64 e0, .int .i64 e1, .int .i64 e2, .int .i64 e3] 82)).tr hf).tr hfa |>.drew)
  have c0 := (cell_of BB0 0).trans rfl
  have c2 := (cell_of BB0 2).trans rfl
  have c3 := (cell_of BB0 3).trans rfl
  have c4 := (cell_of BB0 4).trans rfl
  have c5 := (cell_of BB0 5).trans rfl
  have c6 := (cell_of BB0 6).trans rfl
  simp at c0 c2 c3 c4 c5 c6
  have hb8 : w2.heap.size ≠ w.heap.size + 1 := by omega
  obtain ⟨SS, hSS⟩ : ∃ SS : World → Prop, SS = RdS w.heap.size (w.heap.size + 1) (w.heap.size + 1 + 1) w2.heap.size (.cells #[.int .i64 rat, .int .i64 rtm, .bool rbare, .string rkey, .bool false, .string rval, .slice oa n cap] 32) (.cells #[.string g, .string t, .int .i64 i] 36) (.cells #[.int .i64 e0, .int .i64 e1, .int .i64 e2, .int .i64 e3] 82) (.cells #[.int .i64 Rat, .int .i64 Rtm, .bool Rbare, .string Rkey, .bool Rgone, .string Rval, .slice none 0 0] 32) := ⟨_, rfl⟩
  have HB0 := Lib.hid BB0
  have HB1 := Lib.hid BB1
  have HB2 := Lib.hid BB2
  have HB8 := Lib.hid BB8
  have HSS := Lib.hid hSS
  have hto : ∀ w', SS w' → RdS w.heap.size (w.heap.size + 1) (w.heap.size + 1 + 1) w2.heap.size (.cells #[.int .i64 rat, .int .i64 rtm, .bool rbare, .string rkey, .bool false, .string rval, .slice oa n cap] 32) (.cells #[.string g, .string t, .int .i64 i] 36) (.cells #[.int .i64 e0, .int .i64 e1, .int .i64 e2, .int .i64 e3] 82) (.cells #[.int .i64 Rat, .int .i64 Rtm, .bool Rbare, .string Rkey, .bool Rgone, .string Rval, .slice none 0 0] 32) w' := fun w' h => by rw [hSS] at h; exact h
  have HTO := Lib.hid hto
  clear hto
  have HENT := Lib.hid hent
  clear hcall hf b0 b1 b2 n0 n1 n2 hfa hent D1 D2 D3 D4 BB0 BB1 BB2 BB8 hSS
  go_wp2_with fail
  · clear c0 c2 c3 c4 c5 c6
    have hw4 : (to3 == (rkey.size : Int) && last == (rval.size : Int) && n == 0 && !rbare) = false := by simp [*]
    have HW4 := Lib.hid hw4
    clear hw4
    have he := fun w => arr_eq e0 e1 e2 e3 w
    have x1 : ∀ x : Lcl.InS SS, x.w.cell? ⟨w.heap.size + 1, 0, none⟩ = some (.string g) := fun x => (cell_of (HTO.out _ x.h).b1 0).trans rfl
    have x2 : ∀ x : Lcl.InS SS, x.w.cell? ⟨w.heap.size + 1, 1, none⟩ = some (.string t) := fun x => (cell_of (HTO.out _ x.h).b1 1).trans rfl
    have x3 : ∀ x : Lcl.InS SS, x.w.cell? ⟨w.heap.size + 1, 2, none⟩ = some (.int .i64 i) := fun x => (cell_of (HTO.out _ x.h).b1 2).trans rfl
    have x4 : ∀ x : Lcl.InS SS, x.w.cell? ⟨w.heap.size + 1 + 1, 0, none⟩ = some (.int .i64 e0) := fun x => (cell_of (HTO.out _ x.h).b2 0).trans rfl
    have x5 : ∀ x : Lcl.InS SS, x.w.cell? ⟨w.heap.size + 1 + 1, 1, none⟩ = some (.int .i64 e1) := fun x => (cell_of (HTO.out _ x.h).b2 1).trans rfl
    have x6 : ∀ x : Lcl.InS SS, x.w.cell? ⟨w.heap.size + 1 + 1, 2, none⟩ = some (.int .i64 e2) := fun x => (cell_of (HTO.out _ x.h).b2 2).trans rfl
    have x7 : ∀ x : Lcl.InS SS, x.w.cell? ⟨w.heap.size + 1 + 1, 3, none⟩ = some (.int .i64 e3) := fun x => (cell_of (HTO.out _ x.h).b2 3).trans rfl
    have x8 : ∀ x : Lcl.InS SS, x.w.cell? ⟨w.heap.size, 3, none⟩ = some (.string rkey) := fun x => (cell_of (HTO.out _ x.h).b0 3).trans rfl
    have x9 : ∀ x : Lcl.InS SS, x.w.cell? ⟨w2.heap.size, 3, none⟩ = some (.string Rkey) := fun x => (cell_of (HTO.out _ x.h).b8 3).trans rfl
    cases hE : (e0 == 0 && e1 == 0 && e2 == 0 && e3 == 0) with
    | false =>
      rw [hE] at he
      have HEE := Lib.hid hE
      clear hE
      refine Lcl.wp_region_calm (by kernel_rfl) [(true, [1, 3]), (false, [0, 2]), (true, [4, 5, 6, 7, 8, 9, 10, 11, 12, 13, 14, 15, 16, 17, 19]), (false, [18, 20]), (true, [21, 22])] #[0, 0, 0, 0, 12, 28, 60, 124, 252, 508, 1020, 2044, 4092, 8188, 16380, 32764, 65532, 131068, 262140, 131068, 655356, 2097148, 4194300, 131069, 8519679, 33554431] [0, 1, 2, 3, 4, 5, 6, 7, 8, 9, 10, 11, 12, 13, 14, 15, 16, 17, 18, 19, 20, 21, 22, 23, 24] 3 #[true, true, true, true, true, true, true, true, true, true, true, true, true, true, true, true, true, true, true, true, true, true, true, false, false, false] (by kernel_rfl) (by kernel_rfl) (by kernel_rfl) SS (by rw [HSS.out]; exact ⟨HB0.out, HB1.out, HB2.out, HB8.out⟩) (fun d c a v w h => by cases d <;> exact h) ?_
      simp only [Lcl.opsOf, List.map_cons, List.map_nil, List.getElem?_toArray, List.getElem?_cons_succ, List.getElem?_cons_zero, Option.getD_some]
      refine Lcl.wpCalm_t ?_
      repeat (go_big_quiet_step (rfl))
      refine wpQuiet_nil ?_
      refine Lcl.wpCalm_f ?_
      repeat (go_big_quiet_step (rfl))
      refine wpQuiet_nil ?_
      refine Lcl.wpCalm_t ?_
      repeat (go_big_quiet_step (rfl))
      refine wpQuiet_nil ?_
      refine Lcl.wpCalm_f ?_
      repeat (go_big_quiet_step (rfl))
      refine wpQuiet_nil ?_
      refine Lcl.wpCalm_t ?_
      repeat (go_big_quiet_step (rfl))
      refine wpQuiet_nil ?_
      refine Lcl.wpCalm_nil ?_
      clear x1 x2 x3 x4 x5 x6 x7 x8 x9 he
      refine Lcl.wpG_one 23 rfl (by kernel_rfl) ?_
      refine wpList_store_all rfl 36 (.tmp 2) (.tmp 98) rfl (w.heap.size + 1) rfl 36 _ (.agg #[.string g, .string t, .int .i64 i]) rfl HB1.out rfl (by kernel_rfl) rfl ?_
      intro w6 hb6 hg6
      have hS6 : SS w6 := by
        rw [HSS.out]
        exact ⟨(hg6.block _ (lt_of_heap HB0.out) (by simp)).trans HB0.out, hb6, (hg6.block _ (lt_of_heap HB2.out) (by simp)).trans HB2.out, (hg6.block _ (lt_of_heap HB8.out) (by simp; omega)).trans HB8.out⟩
      have hf6 : Fr (fun _ => False) w w6 := (FW.out).grown hg6 fun i e => by cases e; exact .inr (by omega)
      have z0 := cell_of hb6 0
      have z1 := cell_of hb6 1
      have z2 := cell_of hb6 2
      simp [Value.cells] at z0 z1 z2
      have F6 := Lib.hid hf6
      have S6 := Lib.hid hS6
      clear hb6 hg6 hf6 hS6
      go_wp2_with fail
      refine ⟨fun _ _ => S6.out, ?_⟩
      refine Lcl.wpG_one 24 rfl (by kernel_rfl) ?_
      go_wp2_with fail
      refine ⟨fun _ _ => S6.out, ?_⟩
      refine Lcl.wpG_run [25] _ _ _ (by kernel_rfl) ?_
      simp only [List.map_cons, List.map_nil, List.getElem?_toArray, List.getElem?_cons_succ, List.getElem?_cons_zero, Option.getD_some]

      go_wp2_with fail
      refine bodyPost_ret (v := .tuple #[keyV ⟨g, t, i⟩, .int .i64 a, .bool false]) (by simp [results, Try.f23, go_sem, keyV, z0, z1, z2]) rfl ⟨?_, F6.out⟩
      have hall : false = rdOK e0 e1 e2 e3 f to3 last n rbare rat a rkey rval Rkey := by
        unfold rdOK
        simp only [HEE.out, Bool.false_and, Bool.true_and, Bool.and_false, Bool.and_true]
      rw [hall]
      have hks := HENT.out
      rw [hks]
    | true =>
      rw [hE] at he
      have HEE := Lib.hid hE
      clear hE
      cases hF : (f == 0) with
      | false =>
        refine Lcl.wp_region_calm (by kernel_rfl) [(true, [1, 3]), (false, [0, 2]), (true, [4, 5, 6, 7, 8, 9, 10, 11, 12, 13, 14, 15, 16, 17, 19]), (false, [18, 20]), (true, [21, 22])] #[0, 0, 0, 0, 12, 28, 60, 124, 252, 508, 1020, 2044, 4092, 8188, 16380, 32764, 65532, 131068, 262140, 131068, 655356, 2097148, 4194300, 131069, 8519679, 33554431] [0, 1, 2, 3, 4, 5, 6, 7, 8, 9, 10, 11, 12, 13, 14, 15, 16, 17, 18, 19, 20, 21, 22, 23, 24] 3 #[true, true, true, true, true, true, true, true, true, true, true, true, true, true, true, true, true, true, true, true, true, true, true, false, false, false] (by kernel_rfl) (by kernel_rfl) (by kernel_rfl) SS (by rw [HSS.out]; exact ⟨HB0.out, HB1.out, HB2.out, HB8.out⟩) (fun d c a v w h => by cases d <;> exact h) ?_
        simp only [Lcl.opsOf, List.map_cons, List.map_nil, List.getElem?_toArray, List.getElem?_cons_succ, List.getElem?_cons_zero, Option.getD_some]
        refine Lcl.wpCalm_t ?_
        repeat (go_big_quiet_step (rfl))
        refine wpQuiet_nil ?_
        refine Lcl.wpCalm_f ?_
        repeat (go_big_quiet_step (rfl))
        refine wpQuiet_nil ?_
        refine Lcl.wpCalm_t ?_
        repeat (go_big_quiet_step (rfl))
        refine wpQuiet_nil ?_
        refine Lcl.wpCalm_f ?_
        repeat (go_big_quiet_step (rfl))
        refine wpQuiet_nil ?_
        refine Lcl.wpCalm_t ?_
        repeat (go_big_quiet_step (rfl))
        refine wpQuiet_nil ?_
        refine Lcl.wpCalm_nil ?_
        clear x1 x2 x3 x4 x5 x6 x7 x8 x9 he
        refine Lcl.wpG_one 23 rfl (by kernel_rfl) ?_
        refine wpList_store_all rfl 36 (.tmp 2) (.tmp 98) rfl (w.heap.size + 1) rfl 36 _ (.agg #[.string g, .string t, .int .i64 i]) rfl HB1.out rfl (by kernel_rfl) rfl ?_
        intro w6 hb6 hg6
        have hS6 : SS w6 := by
          rw [HSS.out]
          exact ⟨(hg6.block _ (lt_of_heap HB0.out) (by simp)).trans HB0.out, hb6, (hg6.block _ (lt_of_heap HB2.out) (by simp)).trans HB2.out, (hg6.block _ (lt_of_heap HB8.out) (by simp; omega)).trans HB8.out⟩
        have hf6 : Fr (fun _ => False) w w6 := (FW.out).grown hg6 fun i e => by cases e; exact .inr (by omega)
        have z0 := cell_of hb6 0
        have z1 := cell_of hb6 1
        have z2 := cell_of hb6 2
        simp [Value.cells] at z0 z1 z2
        have F6 := Lib.hid hf6
        have S6 := Lib.hid hS6
        clear hb6 hg6 hf6 hS6
        go_wp2_with fail
        refine ⟨fun _ _ => S6.out, ?_⟩
        refine Lcl.wpG_one 24 rfl (by kernel_rfl) ?_
        go_wp2_with fail
        refine ⟨fun _ _ => S6.out, ?_⟩
        refine Lcl.wpG_run [25] _ _ _ (by kernel_rfl) ?_
        simp only [List.map_cons, List.map_nil, List.getElem?_toArray, List.getElem?_cons_succ, List.getElem?_cons_zero, Option.getD_some]

        go_wp2_with fail
        refine bodyPost_ret (v := .tuple #[keyV ⟨g, t, i⟩, .int .i64 a, .bool false]) (by simp [results, Try.f23, go_sem, keyV, z0, z1, z2]) rfl ⟨?_, F6.out⟩
        have hall : false = rdOK e0 e1 e2 e3 f to3 last n rbare rat a rkey rval Rkey := by
          unfold rdOK
          simp only [HEE.out, hF, Bool.false_and, Bool.true_and, Bool.and_false, Bool.and_true]
        rw [hall]
        have hks := HENT.out
        rw [hks]
      | true =>
        refine Lcl.wp_region_calm (by kernel_rfl) [(true, [1, 3]), (false, [0, 2]), (true, [4, 5, 6, 7, 8, 9, 10, 11, 12, 13, 14, 15, 16, 17, 19]), (false, [18, 20]), (true, [21, 22])] #[0, 0, 0, 0, 12, 28, 60, 124, 252, 508, 1020, 2044, 4092, 8188, 16380, 32764, 65532, 131068, 262140, 131068, 655356, 2097148, 4194300, 131069, 8519679, 33554431] [0, 1, 2, 3, 4, 5, 6, 7, 8, 9, 10, 11, 12, 13, 14, 15, 16, 17, 18, 19, 20, 21, 22, 23, 24] 3 #[true, true, true, true, true, true, true, true, true, true, true, true, true, true, true, true, true, true, true, true, true, true, true, false, false, false] (by kernel_rfl) (by kernel_rfl) (by kernel_rfl) SS (by rw [HSS.out]; exact ⟨HB0.out, HB1.out, HB2.out, HB8.out⟩) (fun d c a v w h => by cases d <;> exact h) ?_
        simp only [Lcl.opsOf, List.map_cons, List.map_nil, List.getElem?_toArray, List.getElem?_cons_succ, List.getElem?_cons_zero, Option.getD_some]
        refine Lcl.wpCalm_t ?_
        repeat (go_big_quiet_step (rfl))
        refine wpQuiet_nil ?_
        refine Lcl.wpCalm_f ?_
        repeat (go_big_quiet_step (rfl))
        refine wpQuiet_nil ?_
        refine Lcl.wpCalm_t ?_
        repeat (go_big_quiet_step (rfl))
        refine wpQuiet_nil ?_
        refine Lcl.wpCalm_f ?_
        repeat (go_big_quiet_step (rfl))
        refine wpQuiet_nil ?_
        refine Lcl.wpCalm_t ?_
        repeat (go_big_quiet_step (rfl))
        refine wpQuiet_nil ?_
        refine Lcl.wpCalm_nil ?_
        clear x1 x2 x3 x4 x5 x6 x7 x8 x9 he
        refine Lcl.wpG_one 23 rfl (by kernel_rfl) ?_
        refine wpList_store_all rfl 36 (.tmp 2) (.tmp 98) rfl (w.heap.size + 1) rfl 36 _ (.agg #[.string g, .string t, .int .i64 i]) rfl HB1.out rfl (by kernel_rfl) rfl ?_
        intro w6 hb6 hg6
        have hS6 : SS w6 := by
          rw [HSS.out]
          exact ⟨(hg6.block _ (lt_of_heap HB0.out) (by simp)).trans HB0.out, hb6, (hg6.block _ (lt_of_heap HB2.out) (by simp)).trans HB2.out, (hg6.block _ (lt_of_heap HB8.out) (by simp; omega)).trans HB8.out⟩
        have hf6 : Fr (fun _ => False) w w6 := (FW.out).grown hg6 fun i e => by cases e; exact .inr (by omega)
        have z0 := cell_of hb6 0
        have z1 := cell_of hb6 1
        have z2 := cell_of hb6 2
        simp [Value.cells] at z0 z1 z2
        have F6 := Lib.hid hf6
        have S6 := Lib.hid hS6
        clear hb6 hg6 hf6 hS6
        go_wp2_with fail
        refine ⟨fun _ _ => S6.out, ?_⟩
        refine Lcl.wpG_one 24 rfl (by kernel_rfl) ?_
        go_wp2_with fail
        refine ⟨fun _ _ => S6.out, ?_⟩
        refine Lcl.wpG_run [25] _ _ _ (by kernel_rfl) ?_
        simp only [List.map_cons, List.map_nil, List.getElem?_toArray, List.getElem?_cons_succ, List.getElem?_cons_zero, Option.getD_some]

        go_wp2_with fail
        refine bodyPost_ret (v := .tuple #[keyV ⟨g, t, i⟩, .int .i64 a, .bool false]) (by simp [results, Try.f23, go_sem, keyV, z0, z1, z2]) rfl ⟨?_, F6.out⟩
        have hall : false = rdOK e0 e1 e2 e3 f to3 last n rbare rat a rkey rval Rkey := by
          unfold rdOK
          simp only [HEE.out, hF, HW4.out, Bool.false_and, Bool.true_and, Bool.and_false, Bool.and_true]
        rw [hall]
        have hks := HENT.out
        rw [hks]
  · clear c0 c2 c3 c4 c5 c6
    have hw4 : (to3 == (rkey.size : Int) && last == (rval.size : Int) && n == 0 && !rbare) = true := by simp [*]
    have HW4 := Lib.hid hw4
    clear hw4
    have he := fun w => arr_eq e0 e1 e2 e3 w
    have x1 : ∀ x : Lcl.InS SS, x.w.cell? ⟨w.heap.size + 1, 0, none⟩ = some (.string g) := fun x => (cell_of (HTO.out _ x.h).b1 0).trans rfl
    have x2 : ∀ x : Lcl.InS SS, x.w.cell? ⟨w.heap.size + 1, 1, none⟩ = some (.string t) := fun x => (cell_of (HTO.out _ x.h).b1 1).trans rfl
    have x3 : ∀ x : Lcl.InS SS, x.w.cell? ⟨w.heap.size + 1, 2, none⟩ = some (.int .i64 i) := fun x => (cell_of (HTO.out _ x.h).b1 2).trans rfl
    have x4 : ∀ x : Lcl.InS SS, x.w.cell? ⟨w.heap.size + 1 + 1, 0, none⟩ = some (.int .i64 e0) := fun x => (cell_of (HTO.out _ x.h).b2 0).trans rfl
    have x5 : ∀ x : Lcl.InS SS, x.w.cell? ⟨w.heap.size + 1 + 1, 1, none⟩ = some (.int .i64 e1) := fun x => (cell_of (HTO.out _ x.h).b2 1).trans rfl
    have x6 : ∀ x : Lcl.InS SS, x.w.cell? ⟨w.heap.size + 1 + 1, 2, none⟩ = some (.int .i64 e2) := fun x => (cell_of (HTO.out _ x.h).b2 2).trans rfl
    have x7 : ∀ x : Lcl.InS SS, x.w.cell? ⟨w.heap.size + 1 + 1, 3, none⟩ = some (.int .i64 e3) := fun x => (cell_of (HTO.out _ x.h).b2 3).trans rfl
    have x8 : ∀ x : Lcl.InS SS, x.w.cell? ⟨w.heap.size, 3, none⟩ = some (.string rkey) := fun x => (cell_of (HTO.out _ x.h).b0 3).trans rfl
    have x9 : ∀ x : Lcl.InS SS, x.w.cell? ⟨w2.heap.size, 3, none⟩ = some (.string Rkey) := fun x => (cell_of (HTO.out _ x.h).b8 3).trans rfl
    cases hE : (e0 == 0 && e1 == 0 && e2 == 0 && e3 == 0) with
    | false =>
      rw [hE] at he
      have HEE := Lib.hid hE
      clear hE
      refine Lcl.wp_region_calm (by kernel_rfl) [(true, [1, 3]), (false, [0, 2]), (true, [4, 5, 6, 7, 8, 9, 10, 11, 12, 13, 14, 15, 16, 17, 19]), (false, [18, 20]), (true, [21, 22])] #[0, 0, 0, 0, 12, 28, 60, 124, 252, 508, 1020, 2044, 4092, 8188, 16380, 32764, 65532, 131068, 262140, 131068, 655356, 2097148, 4194300, 131069, 8519679, 33554431] [0, 1, 2, 3, 4, 5, 6, 7, 8, 9, 10, 11, 12, 13, 14, 15, 16, 17, 18, 19, 20, 21, 22, 23, 24] 3 #[true, true, true, true, true, true, true, true, true, true, true, true, true, true, true, true, true, true, true, true, true, true, true, false, false, false] (by kernel_rfl) (by kernel_rfl) (by kernel_rfl) SS (by rw [HSS.out]; exact ⟨HB0.out, HB1.out, HB2.out, HB8.out⟩) (fun d c a v w h => by cases d <;> exact h) ?_
      simp only [Lcl.opsOf, List.map_cons, List.map_nil, List.getElem?_toArray, List.getElem?_cons_succ, List.getElem?_cons_zero, Option.getD_some]
      refine Lcl.wpCalm_t ?_
      repeat (go_big_quiet_step (rfl))
      refine wpQuiet_nil ?_
      refine Lcl.wpCalm_f ?_
      repeat (go_big_quiet_step (rfl))
      refine wpQuiet_nil ?_
      refine Lcl.wpCalm_t ?_
      repeat (go_big_quiet_step (rfl))
      refine wpQuiet_nil ?_
      refine Lcl.wpCalm_f ?_
      repeat (go_big_quiet_step (rfl))
      refine wpQuiet_nil ?_
      refine Lcl.wpCalm_t ?_
      repeat (go_big_quiet_step (rfl))
      refine wpQuiet_nil ?_
      refine Lcl.wpCalm_nil ?_
      clear x1 x2 x3 x4 x5 x6 x7 x8 x9 he
      refine Lcl.wpG_one 23 rfl (by kernel_rfl) ?_
      refine wpList_store_all rfl 36 (.tmp 2) (.tmp 98) rfl (w.heap.size + 1) rfl 36 _ (.agg #[.string g, .string t, .int .i64 i]) rfl HB1.out rfl (by kernel_rfl) rfl ?_
      intro w6 hb6 hg6
      have hS6 : SS w6 := by
        rw [HSS.out]
        exact ⟨(hg6.block _ (lt_of_heap HB0.out) (by simp)).trans HB0.out, hb6, (hg6.block _ (lt_of_heap HB2.out) (by simp)).trans HB2.out, (hg6.block _ (lt_of_heap HB8.out) (by simp; omega)).trans HB8.out⟩
      have hf6 : Fr (fun _ => False) w w6 := (FW.out).grown hg6 fun i e => by cases e; exact .inr (by omega)
      have z0 := cell_of hb6 0
      have z1 := cell_of hb6 1
      have z2 := cell_of hb6 2
      simp [Value.cells] at z0 z1 z2
      have F6 := Lib.hid hf6
      have S6 := Lib.hid hS6
      clear hb6 hg6 hf6 hS6
      go_wp2_with fail
      refine ⟨fun _ _ => S6.out, ?_⟩
      refine Lcl.wpG_one 24 rfl (by kernel_rfl) ?_
      go_wp2_with fail
      refine ⟨fun _ _ => S6.out, ?_⟩
      refine Lcl.wpG_run [25] _ _ _ (by kernel_rfl) ?_
      simp only [List.map_cons, List.map_nil, List.getElem?_toArray, List.getElem?_cons_succ, List.getElem?_cons_zero, Option.getD_some]

      go_wp2_with fail
      refine bodyPost_ret (v := .tuple #[keyV ⟨g, t, i⟩, .int .i64 a, .bool false]) (by simp [results, Try.f23, go_sem, keyV, z0, z1, z2]) rfl ⟨?_, F6.out⟩
      have hall : false = rdOK e0 e1 e2 e3 f to3 last n rbare rat a rkey rval Rkey := by
        unfold rdOK
        simp only [HEE.out, Bool.false_and, Bool.true_and, Bool.and_false, Bool.and_true]
      rw [hall]
      have hks := HENT.out
      rw [hks]
    | true =>
      rw [hE] at he
      have HEE := Lib.hid hE
      clear hE
      cases hF : (f == 0) with
      | false =>
        refine Lcl.wp_region_calm (by kernel_rfl) [(true, [1, 3]), (false, [0, 2]), (true, [4, 5, 6, 7, 8, 9, 10, 11, 12, 13, 14, 15, 16, 17, 19]), (false, [18, 20]), (true, [21, 22])] #[0, 0, 0, 0, 12, 28, 60, 124, 252, 508, 1020, 2044, 4092, 8188, 16380, 32764, 65532, 131068, 262140, 131068, 655356, 2097148, 4194300, 131069, 8519679, 33554431] [0, 1, 2, 3, 4, 5, 6, 7, 8, 9, 10, 11, 12, 13, 14, 15, 16, 17, 18, 19, 20, 21, 22, 23, 24] 3 #[true, true, true, true, true, true, true, true, true, true, true, true, true, true, true, true, true, true, true, true, true, true, true, false, false, false] (by kernel_rfl) (by kernel_rfl) (by kernel_rfl) SS (by rw [HSS.out]; exact ⟨HB0.out, HB1.out, HB2.out, HB8.out⟩) (fun d c a v w h => by cases d <;> exact h) ?_
        simp only [Lcl.opsOf, List.map_cons, List.map_nil, List.getElem?_toArray, List.getElem?_cons_succ, List.getElem?_cons_zero, Option.getD_some]
        refine Lcl.wpCalm_t ?_
        repeat (go_big_quiet_step (rfl))
        refine wpQuiet_nil ?_
        refine Lcl.wpCalm_f ?_
        repeat (go_big_quiet_step (rfl))
        refine wpQuiet_nil ?_
        refine Lcl.wpCalm_t ?_
        repeat (go_big_quiet_step (rfl))
        refine wpQuiet_nil ?_
        refine Lcl.wpCalm_f ?_
        repeat (go_big_quiet_step (rfl))
        refine wpQuiet_nil ?_
        refine Lcl.wpCalm_t ?_
        repeat (go_big_quiet_step (rfl))
        refine wpQuiet_nil ?_
        refine Lcl.wpCalm_nil ?_
        clear x1 x2 x3 x4 x5 x6 x7 x8 x9 he
        refine Lcl.wpG_one 23 rfl (by kernel_rfl) ?_
        refine wpList_store_all rfl 36 (.tmp 2) (.tmp 98) rfl (w.heap.size + 1) rfl 36 _ (.agg #[.string g, .string t, .int .i64 i]) rfl HB1.out rfl (by kernel_rfl) rfl ?_
        intro w6 hb6 hg6
        have hS6 : SS w6 := by
          rw [HSS.out]
          exact ⟨(hg6.block _ (lt_of_heap HB0.out) (by simp)).trans HB0.out, hb6, (hg6.block _ (lt_of_heap HB2.out) (by simp)).trans HB2.out, (hg6.block _ (lt_of_heap HB8.out) (by simp; omega)).trans HB8.out⟩
        have hf6 : Fr (fun _ => False) w w6 := (FW.out).grown hg6 fun i e => by cases e; exact .inr (by omega)
        have z0 := cell_of hb6 0
        have z1 := cell_of hb6 1
        have z2 := cell_of hb6 2
        simp [Value.cells] at z0 z1 z2
        have F6 := Lib.hid hf6
        have S6 := Lib.hid hS6
        clear hb6 hg6 hf6 hS6
        go_wp2_with fail
        refine ⟨fun _ _ => S6.out, ?_⟩
        refine Lcl.wpG_one 24 rfl (by kernel_rfl) ?_
        go_wp2_with fail
        refine ⟨fun _ _ => S6.out, ?_⟩
        refine Lcl.wpG_run [25] _ _ _ (by kernel_rfl) ?_
        simp only [List.map_cons, List.map_nil, List.getElem?_toArray, List.getElem?_cons_succ, List.getElem?_cons_zero, Option.getD_some]

        go_wp2_with fail
        refine bodyPost_ret (v := .tuple #[keyV ⟨g, t, i⟩, .int .i64 a, .bool false]) (by simp [results, Try.f23, go_sem, keyV, z0, z1, z2]) rfl ⟨?_, F6.out⟩
        have hall : false = rdOK e0 e1 e2 e3 f to3 last n rbare rat a rkey rval Rkey := by
          unfold rdOK
          simp only [HEE.out, hF, Bool.false_and, Bool.true_and, Bool.and_false, Bool.and_true]
        rw [hall]
        have hks := HENT.out
        rw [hks]
      | true =>
        cases hR : (rat == 0) with
        | false =>
          refine Lcl.wp_region_calm (by kernel_rfl) [(true, [1, 3]), (false, [0, 2]), (true, [4, 5, 6, 7, 8, 9, 10, 11, 12, 13, 14, 15, 16, 17, 19]), (false, [18, 20]), (true, [21, 22])] #[0, 0, 0, 0, 12, 28, 60, 124, 252, 508, 1020, 2044, 4092, 8188, 16380, 32764, 65532, 131068, 262140, 131068, 655356, 2097148, 4194300, 131069, 8519679, 33554431] [0, 1, 2, 3, 4, 5, 6, 7, 8, 9, 10, 11, 12, 13, 14, 15, 16, 17, 18, 19, 20, 21, 22, 23, 24] 3 #[true, true, true, true, true, true, true, true, true, true, true, true, true, true, true, true, true, true, true, true, true, true, true, false, false, false] (by kernel_rfl) (by kernel_rfl) (by kernel_rfl) SS (by rw [HSS.out]; exact ⟨HB0.out, HB1.out, HB2.out, HB8.out⟩) (fun d c a v w h => by cases d <;> exact h) ?_
          simp only [Lcl.opsOf, List.map_cons, List.map_nil, List.getElem?_toArray, List.getElem?_cons_succ, List.getElem?_cons_zero, Option.getD_some]
          refine Lcl.wpCalm_t ?_
          repeat (go_big_quiet_step (rfl))
          refine wpQuiet_nil ?_
          refine Lcl.wpCalm_f ?_
          repeat (go_big_quiet_step (rfl))
          refine wpQuiet_nil ?_
          refine Lcl.wpCalm_t ?_
          repeat (go_big_quiet_step (rfl))
          refine wpQuiet_nil ?_
          refine Lcl.wpCalm_f ?_
          repeat (go_big_quiet_step (rfl))
          refine wpQuiet_nil ?_
          refine Lcl.wpCalm_t ?_
          repeat (go_big_quiet_step (rfl))
          refine wpQuiet_nil ?_
          refine Lcl.wpCalm_nil ?_
          clear x1 x2 x3 x4 x5 x6 x7 x8 x9 he
          refine Lcl.wpG_one 23 rfl (by kernel_rfl) ?_
          refine wpList_store_all rfl 36 (.tmp 2) (.tmp 98) rfl (w.heap.size + 1) rfl 36 _ (.agg #[.string g, .string t, .int .i64 i]) rfl HB1.out rfl (by kernel_rfl) rfl ?_
          intro w6 hb6 hg6
          have hS6 : SS w6 := by
            rw [HSS.out]
            exact ⟨(hg6.block _ (lt_of_heap HB0.out) (by simp)).trans HB0.out, hb6, (hg6.block _ (lt_of_heap HB2.out) (by simp)).trans HB2.out, (hg6.block _ (lt_of_heap HB8.out) (by simp; omega)).trans HB8.out⟩
          have hf6 : Fr (fun _ => False) w w6 := (FW.out).grown hg6 fun i e => by cases e; exact .inr (by omega)
          have z0 := cell_of hb6 0
          have z1 := cell_of hb6 1
          have z2 := cell_of hb6 2
          simp [Value.cells] at z0 z1 z2
          have F6 := Lib.hid hf6
          have S6 := Lib.hid hS6
          clear hb6 hg6 hf6 hS6
          go_wp2_with fail
          refine ⟨fun _ _ => S6.out, ?_⟩
          refine Lcl.wpG_one 24 rfl (by kernel_rfl) ?_
          go_wp2_with fail
          refine ⟨fun _ _ => S6.out, ?_⟩
          refine Lcl.wpG_run [25] _ _ _ (by kernel_rfl) ?_
          simp only [List.map_cons, List.map_nil, List.getElem?_toArray, List.getElem?_cons_succ, List.getElem?_cons_zero, Option.getD_some]

          go_wp2_with fail
          refine bodyPost_ret (v := .tuple #[keyV ⟨g, t, i⟩, .int .i64 a, .bool false]) (by simp [results, Try.f23, go_sem, keyV, z0, z1, z2]) rfl ⟨?_, F6.out⟩
          have hall : false = rdOK e0 e1 e2 e3 f to3 last n rbare rat a rkey rval Rkey := by
            unfold rdOK
            simp only [HEE.out, hF, HW4.out, hR, Bool.false_and, Bool.true_and, Bool.and_false, Bool.and_true]
          rw [hall]
          have hks := HENT.out
          rw [hks]
        | true =>
          cases hA : decide (0 ≤ a) with
          | false =>
            refine Lcl.wp_region_calm (by kernel_rfl) [(true, [1, 3]), (false, [0, 2]), (true, [4, 5, 6, 7, 8, 9, 10, 11, 12, 13, 14, 15, 16, 17, 19]), (false, [18, 20]), (true, [21, 22])] #[0, 0, 0, 0, 12, 28, 60, 124, 252, 508, 1020, 2044, 4092, 8188, 16380, 32764, 65532, 131068, 262140, 131068, 655356, 2097148, 4194300, 131069, 8519679, 33554431] [0, 1, 2, 3, 4, 5, 6, 7, 8, 9, 10, 11, 12, 13, 14, 15, 16, 17, 18, 19, 20, 21, 22, 23, 24] 3 #[true, true, true, true, true, true, true, true, true, true, true, true, true, true, true, true, true, true, true, true, true, true, true, false, false, false] (by kernel_rfl) (by kernel_rfl) (by kernel_rfl) SS (by rw [HSS.out]; exact ⟨HB0.out, HB1.out, HB2.out, HB8.out⟩) (fun d c a v w h => by cases d <;> exact h) ?_
            simp only [Lcl.opsOf, List.map_cons, List.map_nil, List.getElem?_toArray, List.getElem?_cons_succ, List.getElem?_cons_zero, Option.getD_some]
            refine Lcl.wpCalm_t ?_
            repeat (go_big_quiet_step (rfl))
            refine wpQuiet_nil ?_
            refine Lcl.wpCalm_f ?_
            repeat (go_big_quiet_step (rfl))
            refine wpQuiet_nil ?_
            refine Lcl.wpCalm_t ?_
            repeat (go_big_quiet_step (rfl))
            refine wpQuiet_nil ?_
            refine Lcl.wpCalm_f ?_
            repeat (go_big_quiet_step (rfl))
            refine wpQuiet_nil ?_
            refine Lcl.wpCalm_t ?_
            repeat (go_big_quiet_step (rfl))
            refine wpQuiet_nil ?_
            refine Lcl.wpCalm_nil ?_
            clear x1 x2 x3 x4 x5 x6 x7 x8 x9 he
            refine Lcl.wpG_one 23 rfl (by kernel_rfl) ?_
            refine wpList_store_all rfl 36 (.tmp 2) (.tmp 98) rfl (w.heap.size + 1) rfl 36 _ (.agg #[.string g, .string t, .int .i64 i]) rfl HB1.out rfl (by kernel_rfl) rfl ?_
            intro w6 hb6 hg6
            have hS6 : SS w6 := by
              rw [HSS.out]
              exact ⟨(hg6.block _ (lt_of_heap HB0.out) (by simp)).trans HB0.out, hb6, (hg6.block _ (lt_of_heap HB2.out) (by simp)).trans HB2.out, (hg6.block _ (lt_of_heap HB8.out) (by simp; omega)).trans HB8.out⟩
            have hf6 : Fr (fun _ => False) w w6 := (FW.out).grown hg6 fun i e => by cases e; exact .inr (by omega)
            have z0 := cell_of hb6 0
            have z1 := cell_of hb6 1
            have z2 := cell_of hb6 2
            simp [Value.cells] at z0 z1 z2
            have F6 := Lib.hid hf6
            have S6 := Lib.hid hS6
            clear hb6 hg6 hf6 hS6
            go_wp2_with fail
            refine ⟨fun _ _ => S6.out, ?_⟩
            refine Lcl.wpG_one 24 rfl (by kernel_rfl) ?_
            go_wp2_with fail
            refine ⟨fun _ _ => S6.out, ?_⟩
            refine Lcl.wpG_run [25] _ _ _ (by kernel_rfl) ?_
            simp only [List.map_cons, List.map_nil, List.getElem?_toArray, List.getElem?_cons_succ, List.getElem?_cons_zero, Option.getD_some]

            go_wp2_with fail
            refine bodyPost_ret (v := .tuple #[keyV ⟨g, t, i⟩, .int .i64 a, .bool false]) (by simp [results, Try.f23, go_sem, keyV, z0, z1, z2]) rfl ⟨?_, F6.out⟩
            have hall : false = rdOK e0 e1 e2 e3 f to3 last n rbare rat a rkey rval Rkey := by
              unfold rdOK
              simp only [HEE.out, hF, HW4.out, hR, hA, Bool.false_and, Bool.true_and, Bool.and_false, Bool.and_true]
            rw [hall]
            have hks := HENT.out
            rw [hks]
          | true =>
            refine Lcl.wp_region_calm (by kernel_rfl) [(true, [1, 3]), (false, [0, 2]), (true, [4, 5, 6, 7, 8, 9, 10, 11, 12, 13, 14, 15, 16, 17, 19]), (false, [18, 20]), (true, [21, 22])] #[0, 0, 0, 0, 12, 28, 60, 124, 252, 508, 1020, 2044, 4092, 8188, 16380, 32764, 65532, 131068, 262140, 131068, 655356, 2097148, 4194300, 131069, 8519679, 33554431] [0, 1, 2, 3, 4, 5, 6, 7, 8, 9, 10, 11, 12, 13, 14, 15, 16, 17, 18, 19, 20, 21, 22, 23, 24] 3 #[true, true, true, true, true, true, true, true, true, true, true, true, true, true, true, true, true, true, true, true, true, true, true, false, false, false] (by kernel_rfl) (by kernel_rfl) (by kernel_rfl) SS (by rw [HSS.out]; exact ⟨HB0.out, HB1.out, HB2.out, HB8.out⟩) (fun d c a v w h => by cases d <;> exact h) ?_
            simp only [Lcl.opsOf, List.map_cons, List.map_nil, List.getElem?_toArray, List.getElem?_cons_succ, List.getElem?_cons_zero, Option.getD_some]
            refine Lcl.wpCalm_t ?_
            repeat (go_big_quiet_step (rfl))
            refine wpQuiet_nil ?_
            refine Lcl.wpCalm_f ?_
            repeat (go_big_quiet_step (rfl))
            refine wpQuiet_nil ?_
            refine Lcl.wpCalm_t ?_
            repeat (go_big_quiet_step (rfl))
            refine wpQuiet_nil ?_
            refine Lcl.wpCalm_f ?_
            repeat (go_big_quiet_step (rfl))
            refine wpQuiet_nil ?_
            refine Lcl.wpCalm_t ?_
            repeat (go_big_quiet_step (rfl))
            refine wpQuiet_nil ?_
            refine Lcl.wpCalm_nil ?_
            clear x1 x2 x3 x4 x5 x6 x7 x8 x9 he
            refine Lcl.wpG_one 23 rfl (by kernel_rfl) ?_
            refine wpList_store_all rfl 36 (.tmp 2) (.tmp 98) rfl (w.heap.size + 1) rfl 36 _ (.agg #[.string g, .string t, .int .i64 i]) rfl HB1.out rfl (by kernel_rfl) rfl ?_
            intro w6 hb6 hg6
            have hS6 : SS w6 := by
              rw [HSS.out]
              exact ⟨(hg6.block _ (lt_of_heap HB0.out) (by simp)).trans HB0.out, hb6, (hg6.block _ (lt_of_heap HB2.out) (by simp)).trans HB2.out, (hg6.block _ (lt_of_heap HB8.out) (by simp; omega)).trans HB8.out⟩
            have hf6 : Fr (fun _ => False) w w6 := (FW.out).grown hg6 fun i e => by cases e; exact .inr (by omega)
            have z0 := cell_of hb6 0
            have z1 := cell_of hb6 1
            have z2 := cell_of hb6 2
            simp [Value.cells] at z0 z1 z2
            have F6 := Lib.hid hf6
            have S6 := Lib.hid hS6
            clear hb6 hg6 hf6 hS6
            go_wp2_with fail
            refine ⟨fun _ _ => S6.out, ?_⟩
            refine Lcl.wpG_one 24 rfl (by kernel_rfl) ?_
            go_wp2_with fail
            refine ⟨fun _ _ => S6.out, ?_⟩
            refine Lcl.wpG_run [25] _ _ _ (by kernel_rfl) ?_
            simp only [List.map_cons, List.map_nil, List.getElem?_toArray, List.getElem?_cons_succ, List.getElem?_cons_zero, Option.getD_some]

            go_wp2_with fail
            refine bodyPost_ret (v := .tuple #[keyV ⟨g, t, i⟩, .int .i64 a, .bool (Rkey.toList == rkey.toList)]) (by simp [results, Try.f23, go_sem, keyV, z0, z1, z2]) rfl ⟨?_, F6.out⟩
            have hall : (Rkey.toList == rkey.toList) = rdOK e0 e1 e2 e3 f to3 last n rbare rat a rkey rval Rkey := by
              unfold rdOK
              simp only [HEE.out, hF, HW4.out, hR, hA, Bool.false_and, Bool.true_and, Bool.and_false, Bool.and_true]
            rw [hall]
            have hks := HENT.out
            rw [hks]
  · clear c0 c2 c3 c4 c5 c6
    have hw4 : (to3 == (rkey.size : Int) && last == (rval.size : Int) && n == 0 && !rbare) = false := by simp [*]
    have HW4 := Lib.hid hw4
    clear hw4
    have he := fun w => arr_eq e0 e1 e2 e3 w
    have x1 : ∀ x : Lcl.InS SS, x.w.cell? ⟨w.heap.size + 1, 0, none⟩ = some (.string g) := fun x => (cell_of (HTO.out _ x.h).b1 0).trans rfl
    have x2 : ∀ x : Lcl.InS SS, x.w.cell? ⟨w.heap.size + 1, 1, none⟩ = some (.string t) := fun x => (cell_of (HTO.out _ x.h).b1 1).trans rfl
    have x3 : ∀ x : Lcl.InS SS, x.w.cell? ⟨w.heap.size + 1, 2, none⟩ = some (.int .i64 i) := fun x => (cell_of (HTO.out _ x.h).b1 2).trans rfl
    have x4 : ∀ x : Lcl.InS SS, x.w.cell? ⟨w.heap.size + 1 + 1, 0, none⟩ = some (.int .i64 e0) := fun x => (cell_of (HTO.out _ x.h).b2 0).trans rfl
    have x5 : ∀ x : Lcl.InS SS, x.w.cell? ⟨w.heap.size + 1 + 1, 1, none⟩ = some (.int .i64 e1) := fun x => (cell_of (HTO.out _ x.h).b2 1).trans rfl
    have x6 : ∀ x : Lcl.InS SS, x.w.cell? ⟨w.heap.size + 1 + 1, 2, none⟩ = some (.int .i64 e2) := fun x => (cell_of (HTO.out _ x.h).b2 2).trans rfl
    have x7 : ∀ x : Lcl.InS SS, x.w.cell? ⟨w.heap.size + 1 + 1, 3, none⟩ = some (.int .i64 e3) := fun x => (cell_of (HTO.out _ x.h).b2 3).trans rfl
    have x8 : ∀ x : Lcl.InS SS, x.w.cell? ⟨w.heap.size, 3, none⟩ = some (.string rkey) := fun x => (cell_of (HTO.out _ x.h).b0 3).trans rfl
    have x9 : ∀ x : Lcl.InS SS, x.w.cell? ⟨w2.heap.size, 3, none⟩ = some (.string Rkey) := fun x => (cell_of (HTO.out _ x.h).b8 3).trans rfl
    cases hE : (e0 == 0 && e1 == 0 && e2 == 0 && e3 == 0) with
    | false =>
      rw [hE] at he
      have HEE := Lib.hid hE
      clear hE
      refine Lcl.wp_region_calm (by kernel_rfl) [(true, [1, 3]), (false, [0, 2]), (true, [4, 5, 6, 7, 8, 9, 10, 11, 12, 13, 14, 15, 16, 17, 19]), (false, [18, 20]), (true, [21, 22])] #[0, 0, 0, 0, 12, 28, 60, 124, 252, 508, 1020, 2044, 4092, 8188, 16380, 32764, 65532, 131068, 262140, 131068, 655356, 2097148, 4194300, 131069, 8519679, 33554431] [0, 1, 2, 3, 4, 5, 6, 7, 8, 9, 10, 11, 12, 13, 14, 15, 16, 17, 18, 19, 20, 21, 22, 23, 24] 3 #[true, true, true, true, true, true, true, true, true, true, true, true, true, true, true, true, true, true, true, true, true, true, true, false, false, false] (by kernel_rfl) (by kernel_rfl) (by kernel_rfl) SS (by rw [HSS.out]; exact ⟨HB0.out, HB1.out, HB2.out, HB8.out⟩) (fun d c a v w h => by cases d <;> exact h) ?_
      simp only [Lcl.opsOf, List.map_cons, List.map_nil, List.getElem?_toArray, List.getElem?_cons_succ, List.getElem?_cons_zero, Option.getD_some]
      refine Lcl.wpCalm_t ?_
      repeat (go_big_quiet_step (rfl))
      refine wpQuiet_nil ?_
      refine Lcl.wpCalm_f ?_
      repeat (go_big_quiet_step (rfl))
      refine wpQuiet_nil ?_
      refine Lcl.wpCalm_t ?_
      repeat (go_big_quiet_step (rfl))
      refine wpQuiet_nil ?_
      refine Lcl.wpCalm_f ?_
      repeat (go_big_quiet_step (rfl))
      refine wpQuiet_nil ?_
      refine Lcl.wpCalm_t ?_
      repeat (go_big_quiet_step (rfl))
      refine wpQuiet_nil ?_
      refine Lcl.wpCalm_nil ?_
      clear x1 x2 x3 x4 x5 x6 x7 x8 x9 he
      refine Lcl.wpG_one 23 rfl (by kernel_rfl) ?_
      refine wpList_store_all rfl 36 (.tmp 2) (.tmp 98) rfl (w.heap.size + 1) rfl 36 _ (.agg #[.string g, .string t, .int .i64 i]) rfl HB1.out rfl (by kernel_rfl) rfl ?_
      intro w6 hb6 hg6
      have hS6 : SS w6 := by
        rw [HSS.out]
        exact ⟨(hg6.block _ (lt_of_heap HB0.out) (by simp)).trans HB0.out, hb6, (hg6.block _ (lt_of_heap HB2.out) (by simp)).trans HB2.out, (hg6.block _ (lt_of_heap HB8.out) (by simp; omega)).trans HB8.out⟩
      have hf6 : Fr (fun _ => False) w w6 := (FW.out).grown hg6 fun i e => by cases e; exact .inr (by omega)
      have z0 := cell_of hb6 0
      have z1 := cell_of hb6 1
      have z2 := cell_of hb6 2
      simp [Value.cells] at z0 z1 z2
      have F6 := Lib.hid hf6
      have S6 := Lib.hid hS6
      clear hb6 hg6 hf6 hS6
      go_wp2_with fail
      refine ⟨fun _ _ => S6.out, ?_⟩
      refine Lcl.wpG_one 24 rfl (by kernel_rfl) ?_
      go_wp2_with fail
      refine ⟨fun _ _ => S6.out, ?_⟩
      refine Lcl.wpG_run [25] _ _ _ (by kernel_rfl) ?_
      simp only [List.map_cons, List.map_nil, List.getElem?_toArray, List.getElem?_cons_succ, List.getElem?_cons_zero, Option.getD_some]

      go_wp2_with fail
      refine bodyPost_ret (v := .tuple #[keyV ⟨g, t, i⟩, .int .i64 a, .bool false]) (by simp [results, Try.f23, go_sem, keyV, z0, z1, z2]) rfl ⟨?_, F6.out⟩
      have hall : false = rdOK e0 e1 e2 e3 f to3 last n rbare rat a rkey rval Rkey := by
        unfold rdOK
        simp only [HEE.out, Bool.false_and, Bool.true_and, Bool.and_false, Bool.and_true]
      rw [hall]
      have hks := HENT.out
      rw [hks]
    | true =>
      rw [hE] at he
      have HEE := Lib.hid hE
      clear hE
      cases hF : (f == 0) with
      | false =>
        refine Lcl.wp_region_calm (by kernel_rfl) [(true, [1, 3]), (false, [0, 2]), (true, [4, 5, 6, 7, 8, 9, 10, 11, 12, 13, 14, 15, 16, 17, 19]), (false, [18, 20]), (true, [21, 22])] #[0, 0, 0, 0, 12, 28, 60, 124, 252, 508, 1020, 2044, 4092, 8188, 16380, 32764, 65532, 131068, 262140, 131068, 655356, 2097148, 4194300, 131069, 8519679, 33554431] [0, 1, 2, 3, 4, 5, 6, 7, 8, 9, 10, 11, 12, 13, 14, 15, 16, 17, 18, 19, 20, 21, 22, 23, 24] 3 #[true, true, true, true, true, true, true, true, true, true, true, true, true, true, true, true, true, true, true, true, true, true, true, false, false, false] (by kernel_rfl) (by kernel_rfl) (by kernel_rfl) SS (by rw [HSS.out]; exact ⟨HB0.out, HB1.out, HB2.out, HB8.out⟩) (fun d c a v w h => by cases d <;> exact h) ?_
        simp only [Lcl.opsOf, List.map_cons, List.map_nil, List.getElem?_toArray, List.getElem?_cons_succ, List.getElem?_cons_zero, Option.getD_some]
        refine Lcl.wpCalm_t ?_
        repeat (go_big_quiet_step (rfl))
        refine wpQuiet_nil ?_
        refine Lcl.wpCalm_f ?_
        repeat (go_big_quiet_step (rfl))
        refine wpQuiet_nil ?_
        refine Lcl.wpCalm_t ?_
        repeat (go_big_quiet_step (rfl))
        refine wpQuiet_nil ?_
        refine Lcl.wpCalm_f ?_
        repeat (go_big_quiet_step (rfl))
        refine wpQuiet_nil ?_
        refine Lcl.wpCalm_t ?_
        repeat (go_big_quiet_step (rfl))
        refine wpQuiet_nil ?_
        refine Lcl.wpCalm_nil ?_
        clear x1 x2 x3 x4 x5 x6 x7 x8 x9 he
        refine Lcl.wpG_one 23 rfl (by kernel_rfl) ?_
        refine wpList_store_all rfl 36 (.tmp 2) (.tmp 98) rfl (w.heap.size + 1) rfl 36 _ (.agg #[.string g, .string t, .int .i64 i]) rfl HB1.out rfl (by kernel_rfl) rfl ?_
        intro w6 hb6 hg6
        have hS6 : SS w6 := by
          rw [HSS.out]
          exact ⟨(hg6.block _ (lt_of_heap HB0.out) (by simp)).trans HB0.out, hb6, (hg6.block _ (lt_of_heap HB2.out) (by simp)).trans HB2.out, (hg6.block _ (lt_of_heap HB8.out) (by simp; omega)).trans HB8.out⟩
        have hf6 : Fr (fun _ => False) w w6 := (FW.out).grown hg6 fun i e => by cases e; exact .inr (by omega)
        have z0 := cell_of hb6 0
        have z1 := cell_of hb6 1
        have z2 := cell_of hb6 2
        simp [Value.cells] at z0 z1 z2
        have F6 := Lib.hid hf6
        have S6 := Lib.hid hS6
        clear hb6 hg6 hf6 hS6
        go_wp2_with fail
        refine ⟨fun _ _ => S6.out, ?_⟩
        refine Lcl.wpG_one 24 rfl (by kernel_rfl) ?_
        go_wp2_with fail
        refine ⟨fun _ _ => S6.out, ?_⟩
        refine Lcl.wpG_run [25] _ _ _ (by kernel_rfl) ?_
        simp only [List.map_cons, List.map_nil, List.getElem?_toArray, List.getElem?_cons_succ, List.getElem?_cons_zero, Option.getD_some]

        go_wp2_with fail
        refine bodyPost_ret (v := .tuple #[keyV ⟨g, t, i⟩, .int .i64 a, .bool false]) (by simp [results, Try.f23, go_sem, keyV, z0, z1, z2]) rfl ⟨?_, F6.out⟩
        have hall : false = rdOK e0 e1 e2 e3 f to3 last n rbare rat a rkey rval Rkey := by
          unfold rdOK
          simp only [HEE.out, hF, Bool.false_and, Bool.true_and, Bool.and_false, Bool.and_true]
        rw [hall]
        have hks := HENT.out
        rw [hks]
      | true =>
        refine Lcl.wp_region_calm (by kernel_rfl) [(true, [1, 3]), (false, [0, 2]), (true, [4, 5, 6, 7, 8, 9, 10, 11, 12, 13, 14, 15, 16, 17, 19]), (false, [18, 20]), (true, [21, 22])] #[0, 0, 0, 0, 12, 28, 60, 124, 252, 508, 1020, 2044, 4092, 8188, 16380, 32764, 65532, 131068, 262140, 131068, 655356, 2097148, 4194300, 131069, 8519679, 33554431] [0, 1, 2, 3, 4, 5, 6, 7, 8, 9, 10, 11, 12, 13, 14, 15, 16, 17, 18, 19, 20, 21, 22, 23, 24] 3 #[true, true, true, true, true, true, true, true, true, true, true, true, true, true, true, true, true, true, true, true, true, true, true, false, false, false] (by kernel_rfl) (by kernel_rfl) (by kernel_rfl) SS (by rw [HSS.out]; exact ⟨HB0.out, HB1.out, HB2.out, HB8.out⟩) (fun d c a v w h => by cases d <;> exact h) ?_
        simp only [Lcl.opsOf, List.map_cons, List.map_nil, List.getElem?_toArray, List.getElem?_cons_succ, List.getElem?_cons_zero, Option.getD_some]
        refine Lcl.wpCalm_t ?_
        repeat (go_big_quiet_step (rfl))
        refine wpQuiet_nil ?_
        refine Lcl.wpCalm_f ?_
        repeat (go_big_quiet_step (rfl))
        refine wpQuiet_nil ?_
        refine Lcl.wpCalm_t ?_
        repeat (go_big_quiet_step (rfl))
        refine wpQuiet_nil ?_
        refine Lcl.wpCalm_f ?_
        repeat (go_big_quiet_step (rfl))
        refine wpQuiet_nil ?_
        refine Lcl.wpCalm_t ?_
        repeat (go_big_quiet_step (rfl))
        refine wpQuiet_nil ?_
        refine Lcl.wpCalm_nil ?_
        clear x1 x2 x3 x4 x5 x6 x7 x8 x9 he
        refine Lcl.wpG_one 23 rfl (by kernel_rfl) ?_
        refine wpList_store_all rfl 36 (.tmp 2) (.tmp 98) rfl (w.heap.size + 1) rfl 36 _ (.agg #[.string g, .string t, .int .i64 i]) rfl HB1.out rfl (by kernel_rfl) rfl ?_
        intro w6 hb6 hg6
        have hS6 : SS w6 := by
          rw [HSS.out]
          exact ⟨(hg6.block _ (lt_of_heap HB0.out) (by simp)).trans HB0.out, hb6, (hg6.block _ (lt_of_heap HB2.out) (by simp)).trans HB2.out, (hg6.block _ (lt_of_heap HB8.out) (by simp; omega)).trans HB8.out⟩
        have hf6 : Fr (fun _ => False) w w6 := (FW.out).grown hg6 fun i e => by cases e; exact .inr (by omega)
        have z0 := cell_of hb6 0
        have z1 := cell_of hb6 1
        have z2 := cell_of hb6 2
        simp [Value.cells] at z0 z1 z2
        have F6 := Lib.hid hf6
        have S6 := Lib.hid hS6
        clear hb6 hg6 hf6 hS6
        go_wp2_with fail
        refine ⟨fun _ _ => S6.out, ?_⟩
        refine Lcl.wpG_one 24 rfl (by kernel_rfl) ?_
        go_wp2_with fail
        refine ⟨fun _ _ => S6.out, ?_⟩
        refine Lcl.wpG_run [25] _ _ _ (by kernel_rfl) ?_
        simp only [List.map_cons, List.map_nil, List.getElem?_toArray, List.getElem?_cons_succ, List.getElem?_cons_zero, Option.getD_some]

        go_wp2_with fail
        refine bodyPost_ret (v := .tuple #[keyV ⟨g, t, i⟩, .int .i64 a, .bool false]) (by simp [results, Try.f23, go_sem, keyV, z0, z1, z2]) rfl ⟨?_, F6.out⟩
        have hall : false = rdOK e0 e1 e2 e3 f to3 last n rbare rat a rkey rval Rkey := by
          unfold rdOK
          simp only [HEE.out, hF, HW4.out, Bool.false_and, Bool.true_and, Bool.and_false, Bool.and_true]
        rw [hall]
        have hks := HENT.out
        rw [hks]
  · clear c0 c2 c3 c4 c5 c6
    have hw4 : (to3 == (rkey.size : Int) && last == (rval.size : Int) && n == 0 && !rbare) = false := by simp [*]
    have HW4 := Lib.hid hw4
    clear hw4
    have he := fun w => arr_eq e0 e1 e2 e3 w
    have x1 : ∀ x : Lcl.InS SS, x.w.cell? ⟨w.heap.size + 1, 0, none⟩ = some (.string g) := fun x => (cell_of (HTO.out _ x.h).b1 0).trans rfl
    have x2 : ∀ x : Lcl.InS SS, x.w.cell? ⟨w.heap.size + 1, 1, none⟩ = some (.string t) := fun x => (cell_of (HTO.out _ x.h).b1 1).trans rfl
    have x3 : ∀ x : Lcl.InS SS, x.w.cell? ⟨w.heap.size + 1, 2, none⟩ = some (.int .i64 i) := fun x => (cell_of (HTO.out _ x.h).b1 2).trans rfl
    have x4 : ∀ x : Lcl.InS SS, x.w.cell? ⟨w.heap.size + 1 + 1, 0, none⟩ = some (.int .i64 e0) := fun x => (cell_of (HTO.out _ x.h).b2 0).trans rfl
    have x5 : ∀ x : Lcl.InS SS, x.w.cell? ⟨w.heap.size + 1 + 1, 1, none⟩ = some (.int .i64 e1) := fun x => (cell_of (HTO.out _ x.h).b2 1).trans rfl
    have x6 : ∀ x : Lcl.InS SS, x.w.cell? ⟨w.heap.size + 1 + 1, 2, none⟩ = some (.int .i64 e2) := fun x => (cell_of (HTO.out _ x.h).b2 2).trans rfl
    have x7 : ∀ x : Lcl.InS SS, x.w.cell? ⟨w.heap.size + 1 + 1, 3, none⟩ = some (.int .i64 e3) := fun x => (cell_of (HTO.out _ x.h).b2 3).trans rfl
    have x8 : ∀ x : Lcl.InS SS, x.w.cell? ⟨w.heap.size, 3, none⟩ = some (.string rkey) := fun x => (cell_of (HTO.out _ x.h).b0 3).trans rfl
    have x9 : ∀ x : Lcl.InS SS, x.w.cell? ⟨w2.heap.size, 3, none⟩ = some (.string Rkey) := fun x => (cell_of (HTO.out _ x.h).b8 3).trans rfl
    cases hE : (e0 == 0 && e1 == 0 && e2 == 0 && e3 == 0) with
    | false =>
      rw [hE] at he
      have HEE := Lib.hid hE
      clear hE
      refine Lcl.wp_region_calm (by kernel_rfl) [(true, [1, 3]), (false, [0, 2]), (true, [4, 5, 6, 7, 8, 9, 10, 11, 12, 13, 14, 15, 16, 17, 19]), (false, [18, 20]), (true, [21, 22])] #[0, 0, 0, 0, 12, 28, 60, 124, 252, 508, 1020, 2044, 4092, 8188, 16380, 32764, 65532, 131068, 262140, 131068, 655356, 2097148, 4194300, 131069, 8519679, 33554431] [0, 1, 2, 3, 4, 5, 6, 7, 8, 9, 10, 11, 12, 13, 14, 15, 16, 17, 18, 19, 20, 21, 22, 23, 24] 3 #[true, true, true, true, true, true, true, true, true, true, true, true, true, true, true, true, true, true, true, true, true, true, true, false, false, false] (by kernel_rfl) (by kernel_rfl) (by kernel_rfl) SS (by rw [HSS.out]; exact ⟨HB0.out, HB1.out, HB2.out, HB8.out⟩) (fun d c a v w h => by cases d <;> exact h) ?_
      simp only [Lcl.opsOf, List.map_cons, List.map_nil, List.getElem?_toArray, List.getElem?_cons_succ, List.getElem?_cons_zero, Option.getD_some]
      refine Lcl.wpCalm_t ?_
      repeat (go_big_quiet_step (rfl))
      refine wpQuiet_nil ?_
      refine Lcl.wpCalm_f ?_
      repeat (go_big_quiet_step (rfl))
      refine wpQuiet_nil ?_
      refine Lcl.wpCalm_t ?_
      repeat (go_big_quiet_step (rfl))
      refine wpQuiet_nil ?_
      refine Lcl.wpCalm_f ?_
      repeat (go_big_quiet_step (rfl))
      refine wpQuiet_nil ?_
      refine Lcl.wpCalm_t ?_
      repeat (go_big_quiet_step (rfl))
      refine wpQuiet_nil ?_
      refine Lcl.wpCalm_nil ?_
      clear x1 x2 x3 x4 x5 x6 x7 x8 x9 he
      refine Lcl.wpG_one 23 rfl (by kernel_rfl) ?_
      refine wpList_store_all rfl 36 (.tmp 2) (.tmp 98) rfl (w.heap.size + 1) rfl 36 _ (.agg #[.string g, .string t, .int .i64 i]) rfl HB1.out rfl (by kernel_rfl) rfl ?_
      intro w6 hb6 hg6
      have hS6 : SS w6 := by
        rw [HSS.out]
        exact ⟨(hg6.block _ (lt_of_heap HB0.out) (by simp)).trans HB0.out, hb6, (hg6.block _ (lt_of_heap HB2.out) (by simp)).trans HB2.out, (hg6.block _ (lt_of_heap HB8.out) (by simp; omega)).trans HB8.out⟩
      have hf6 : Fr (fun _ => False) w w6 := (FW.out).grown hg6 fun i e => by cases e; exact .inr (by omega)
      have z0 := cell_of hb6 0
      have z1 := cell_of hb6 1
      have z2 := cell_of hb6 2
      simp [Value.cells] at z0 z1 z2
      have F6 := Lib.hid hf6
      have S6 := Lib.hid hS6
      clear hb6 hg6 hf6 hS6
      go_wp2_with fail
      refine ⟨fun _ _ => S6.out, ?_⟩
      refine Lcl.wpG_one 24 rfl (by kernel_rfl) ?_
      go_wp2_with fail
      refine ⟨fun _ _ => S6.out, ?_⟩
      refine Lcl.wpG_run [25] _ _ _ (by kernel_rfl) ?_
      simp only [List.map_cons, List.map_nil, List.getElem?_toArray, List.getElem?_cons_succ, List.getElem?_cons_zero, Option.getD_some]

      go_wp2_with fail
      refine bodyPost_ret (v := .tuple #[keyV ⟨g, t, i⟩, .int .i64 a, .bool false]) (by simp [results, Try.f23, go_sem, keyV, z0, z1, z2]) rfl ⟨?_, F6.out⟩
      have hall : false = rdOK e0 e1 e2 e3 f to3 last n rbare rat a rkey rval Rkey := by
        unfold rdOK
        simp only [HEE.out, Bool.false_and, Bool.true_and, Bool.and_false, Bool.and_true]
      rw [hall]
      have hks := HENT.out
      rw [hks]
    | true =>
      rw [hE] at he
      have HEE := Lib.hid hE
      clear hE
      cases hF : (f == 0) with
      | false =>
        refine Lcl.wp_region_calm (by kernel_rfl) [(true, [1, 3]), (false, [0, 2]), (true, [4, 5, 6, 7, 8, 9, 10, 11, 12, 13, 14, 15, 16, 17, 19]), (false, [18, 20]), (true, [21, 22])] #[0, 0, 0, 0, 12, 28, 60, 124, 252, 508, 1020, 2044, 4092, 8188, 16380, 32764, 65532, 131068, 262140, 131068, 655356, 2097148, 4194300, 131069, 8519679, 33554431] [0, 1, 2, 3, 4, 5, 6, 7, 8, 9, 10, 11, 12, 13, 14, 15, 16, 17, 18, 19, 20, 21, 22, 23, 24] 3 #[true, true, true, true, true, true, true, true, true, true, true, true, true, true, true, true, true, true, true, true, true, true, true, false, false, false] (by kernel_rfl) (by kernel_rfl) (by kernel_rfl) SS (by rw [HSS.out]; exact ⟨HB0.out, HB1.out, HB2.out, HB8.out⟩) (fun d c a v w h => by cases d <;> exact h) ?_
        simp only [Lcl.opsOf, List.map_cons, List.map_nil, List.getElem?_toArray, List.getElem?_cons_succ, List.getElem?_cons_zero, Option.getD_some]
        refine Lcl.wpCalm_t ?_
        repeat (go_big_quiet_step (rfl))
        refine wpQuiet_nil ?_
        refine Lcl.wpCalm_f ?_
        repeat (go_big_quiet_step (rfl))
        refine wpQuiet_nil ?_
        refine Lcl.wpCalm_t ?_
        repeat (go_big_quiet_step (rfl))
        refine wpQuiet_nil ?_
        refine Lcl.wpCalm_f ?_
        repeat (go_big_quiet_step (rfl))
        refine wpQuiet_nil ?_
        refine Lcl.wpCalm_t ?_
        repeat (go_big_quiet_step (rfl))
        refine wpQuiet_nil ?_
        refine Lcl.wpCalm_nil ?_
        clear x1 x2 x3 x4 x5 x6 x7 x8 x9 he
        refine Lcl.wpG_one 23 rfl (by kernel_rfl) ?_
        refine wpList_store_all rfl 36 (.tmp 2) (.tmp 98) rfl (w.heap.size + 1) rfl 36 _ (.agg #[.string g, .string t, .int .i64 i]) rfl HB1.out rfl (by kernel_rfl) rfl ?_
        intro w6 hb6 hg6
        have hS6 : SS w6 := by
          rw [HSS.out]
          exact ⟨(hg6.block _ (lt_of_heap HB0.out) (by simp)).trans HB0.out, hb6, (hg6.block _ (lt_of_heap HB2.out) (by simp)).trans HB2.out, (hg6.block _ (lt_of_heap HB8.out) (by simp; omega)).trans HB8.out⟩
        have hf6 : Fr (fun _ => False) w w6 := (FW.out).grown hg6 fun i e => by cases e; exact .inr (by omega)
        have z0 := cell_of hb6 0
        have z1 := cell_of hb6 1
        have z2 := cell_of hb6 2
        simp [Value.cells] at z0 z1 z2
        have F6 := Lib.hid hf6
        have S6 := Lib.hid hS6
        clear hb6 hg6 hf6 hS6
        go_wp2_with fail
        refine ⟨fun _ _ => S6.out, ?_⟩
        refine Lcl.wpG_one 24 rfl (by kernel_rfl) ?_
        go_wp2_with fail
        refine ⟨fun _ _ => S6.out, ?_⟩
        refine Lcl.wpG_run [25] _ _ _ (by kernel_rfl) ?_
        simp only [List.map_cons, List.map_nil, List.getElem?_toArray, List.getElem?_cons_succ, List.getElem?_cons_zero, Option.getD_some]

        go_wp2_with fail
        refine bodyPost_ret (v := .tuple #[keyV ⟨g, t, i⟩, .int .i64 a, .bool false]) (by simp [results, Try.f23, go_sem, keyV, z0, z1, z2]) rfl ⟨?_, F6.out⟩
        have hall : false = rdOK e0 e1 e2 e3 f to3 last n rbare rat a rkey rval Rkey := by
          unfold rdOK
          simp only [HEE.out, hF, Bool.false_and, Bool.true_and, Bool.and_false, Bool.and_true]
        rw [hall]
        have hks := HENT.out
        rw [hks]
      | true =>
        refine Lcl.wp_region_calm (by kernel_rfl) [(true, [1, 3]), (false, [0, 2]), (true, [4, 5, 6, 7, 8, 9, 10, 11, 12, 13, 14, 15, 16, 17, 19]), (false, [18, 20]), (true, [21, 22])] #[0, 0, 0, 0, 12, 28, 60, 124, 252, 508, 1020, 2044, 4092, 8188, 16380, 32764, 65532, 131068, 262140, 131068, 655356, 2097148, 4194300, 131069, 8519679, 33554431] [0, 1, 2, 3, 4, 5, 6, 7, 8, 9, 10, 11, 12, 13, 14, 15, 16, 17, 18, 19, 20, 21, 22, 23, 24] 3 #[true, true, true, true, true, true, true, true, true, true, true, true, true, true, true, true, true, true, true, true, true, true, true, false, false, false] (by kernel_rfl) (by kernel_rfl) (by kernel_rfl) SS (by rw [HSS.out]; exact ⟨HB0.out, HB1.out, HB2.out, HB8.out⟩) (fun d c a v w h => by cases d <;> exact h) ?_
        simp only [Lcl.opsOf, List.map_cons, List.map_nil, List.getElem?_toArray, List.getElem?_cons_succ, List.getElem?_cons_zero, Option.getD_some]
        refine Lcl.wpCalm_t ?_
        repeat (go_big_quiet_step (rfl))
        refine wpQuiet_nil ?_
        refine Lcl.wpCalm_f ?_
        repeat (go_big_quiet_step (rfl))
        refine wpQuiet_nil ?_
        refine Lcl.wpCalm_t ?_
        repeat (go_big_quiet_step (rfl))
        refine wpQuiet_nil ?_
        refine Lcl.wpCalm_f ?_
        repeat (go_big_quiet_step (rfl))
        refine wpQuiet_nil ?_
        refine Lcl.wpCalm_t ?_
        repeat (go_big_quiet_step (rfl))
        refine wpQuiet_nil ?_
        refine Lcl.wpCalm_nil ?_
        clear x1 x2 x3 x4 x5 x6 x7 x8 x9 he
        refine Lcl.wpG_one 23 rfl (by kernel_rfl) ?_
        refine wpList_store_all rfl 36 (.tmp 2) (.tmp 98) rfl (w.heap.size + 1) rfl 36 _ (.agg #[.string g, .string t, .int .i64 i]) rfl HB1.out rfl (by kernel_rfl) rfl ?_
        intro w6 hb6 hg6
        have hS6 : SS w6 := by
          rw [HSS.out]
          exact ⟨(hg6.block _ (lt_of_heap HB0.out) (by simp)).trans HB0.out, hb6, (hg6.block _ (lt_of_heap HB2.out) (by simp)).trans HB2.out, (hg6.block _ (lt_of_heap HB8.out) (by simp; omega)).trans HB8.out⟩
        have hf6 : Fr (fun _ => False) w w6 := (FW.out).grown hg6 fun i e => by cases e; exact .inr (by omega)
        have z0 := cell_of hb6 0
        have z1 := cell_of hb6 1
        have z2 := cell_of hb6 2
        simp [Value.cells] at z0 z1 z2
        have F6 := Lib.hid hf6
        have S6 := Lib.hid hS6
        clear hb6 hg6 hf6 hS6
        go_wp2_with fail
        refine ⟨fun _ _ => S6.out, ?_⟩
        refine Lcl.wpG_one 24 rfl (by kernel_rfl) ?_
        go_wp2_with fail
        refine ⟨fun _ _ => S6.out, ?_⟩
        refine Lcl.wpG_run [25] _ _ _ (by kernel_rfl) ?_
        simp only [List.map_cons, List.map_nil, List.getElem?_toArray, List.getElem?_cons_succ, List.getElem?_cons_zero, Option.getD_some]

        go_wp2_with fail
        refine bodyPost_ret (v := .tuple #[keyV ⟨g, t, i⟩, .int .i64 a, .bool false]) (by simp [results, Try.f23, go_sem, keyV, z0, z1, z2]) rfl ⟨?_, F6.out⟩
        have hall : false = rdOK e0 e1 e2 e3 f to3 last n rbare rat a rkey rval Rkey := by
          unfold rdOK
          simp only [HEE.out, hF, HW4.out, Bool.false_and, Bool.true_and, Bool.and_false, Bool.and_true]
        rw [hall]
        have hks := HENT.out
        rw [hks]
  · clear c0 c2 c3 c4 c5 c6
    have hw4 : (to3 == (rkey.size : Int) && last == (rval.size : Int) && n == 0 && !rbare) = false := by simp [*]
    have HW4 := Lib.hid hw4
    clear hw4
    have he := fun w => arr_eq e0 e1 e2 e3 w
    have x1 : ∀ x : Lcl.InS SS, x.w.cell? ⟨w.heap.size + 1, 0, none⟩ = some (.string g) := fun x => (cell_of (HTO.out _ x.h).b1 0).trans rfl
    have x2 : ∀ x : Lcl.InS SS, x.w.cell? ⟨w.heap.size + 1, 1, none⟩ = some (.string t) := fun x => (cell_of (HTO.out _ x.h).b1 1).trans rfl
    have x3 : ∀ x : Lcl.InS SS, x.w.cell? ⟨w.heap.size + 1, 2, none⟩ = some (.int .i64 i) := fun x => (cell_of (HTO.out _ x.h).b1 2).trans rfl
    have x4 : ∀ x : Lcl.InS SS, x.w.cell? ⟨w.heap.size + 1 + 1, 0, none⟩ = some (.int .i64 e0) := fun x => (cell_of (HTO.out _ x.h).b2 0).trans rfl
    have x5 : ∀ x : Lcl.InS SS, x.w.cell? ⟨w.heap.size + 1 + 1, 1, none⟩ = some (.int .i64 e1) := fun x => (cell_of (HTO.out _ x.h).b2 1).trans rfl
    have x6 : ∀ x : Lcl.InS SS, x.w.cell? ⟨w.heap.size + 1 + 1, 2, none⟩ = some (.int .i64 e2) := fun x => (cell_of (HTO.out _ x.h).b2 2).trans rfl
    have x7 : ∀ x : Lcl.InS SS, x.w.cell? ⟨w.heap.size + 1 + 1, 3, none⟩ = some (.int .i64 e3) := fun x => (cell_of (HTO.out _ x.h).b2 3).trans rfl
    have x8 : ∀ x : Lcl.InS SS, x.w.cell? ⟨w.heap.size, 3, none⟩ = some (.string rkey) := fun x => (cell_of (HTO.out _ x.h).b0 3).trans rfl
    have x9 : ∀ x : Lcl.InS SS, x.w.cell? ⟨w2.heap.size, 3, none⟩ = some (.string Rkey) := fun x => (cell_of (HTO.out _ x.h).b8 3).trans rfl
    cases hE : (e0 == 0 && e1 == 0 && e2 == 0 && e3 == 0) with
    | false =>
      rw [hE] at he
      have HEE := Lib.hid hE
      clear hE
      refine Lcl.wp_region_calm (by kernel_rfl) [(true, [1, 3]), (false, [0, 2]), (true, [4, 5, 6, 7, 8, 9, 10, 11, 12, 13, 14, 15, 16, 17, 19]), (false, [18, 20]), (true, [21, 22])] #[0, 0, 0, 0, 12, 28, 60, 124, 252, 508, 1020, 2044, 4092, 8188, 16380, 32764, 65532, 131068, 262140, 131068, 655356, 2097148, 4194300, 131069, 8519679, 33554431] [0, 1, 2, 3, 4, 5, 6, 7, 8, 9, 10, 11, 12, 13, 14, 15, 16, 17, 18, 19, 20, 21, 22, 23, 24] 3 #[true, true, true, true, true, true, true, true, true, true, true, true, true, true, true, true, true, true, true, true, true, true, true, false, false, false] (by kernel_rfl) (by kernel_rfl) (by kernel_rfl) SS (by rw [HSS.out]; exact ⟨HB0.out, HB1.out, HB2.out, HB8.out⟩) (fun d c a v w h => by cases d <;> exact h) ?_
      simp only [Lcl.opsOf, List.map_cons, List.map_nil, List.getElem?_toArray, List.getElem?_cons_succ, List.getElem?_cons_zero, Option.getD_some]
      refine Lcl.wpCalm_t ?_
      repeat (go_big_quiet_step (rfl))
      refine wpQuiet_nil ?_
      refine Lcl.wpCalm_f ?_
      repeat (go_big_quiet_step (rfl))
      refine wpQuiet_nil ?_
      refine Lcl.wpCalm_t ?_
      repeat (go_big_quiet_step (rfl))
      refine wpQuiet_nil ?_
      refine Lcl.wpCalm_f ?_
      repeat (go_big_quiet_step (rfl))
      refine wpQuiet_nil ?_
      refine Lcl.wpCalm_t ?_
      repeat (go_big_quiet_step (rfl))
      refine wpQuiet_nil ?_
      refine Lcl.wpCalm_nil ?_
      clear x1 x2 x3 x4 x5 x6 x7 x8 x9 he
      refine Lcl.wpG_one 23 rfl (by kernel_rfl) ?_
      refine wpList_store_all rfl 36 (.tmp 2) (.tmp 98) rfl (w.heap.size + 1) rfl 36 _ (.agg #[.string g, .string t, .int .i64 i]) rfl HB1.out rfl (by kernel_rfl) rfl ?_
      intro w6 hb6 hg6
      have hS6 : SS w6 := by
        rw [HSS.out]
        exact ⟨(hg6.block _ (lt_of_heap HB0.out) (by simp)).trans HB0.out, hb6, (hg6.block _ (lt_of_heap HB2.out) (by simp)).trans HB2.out, (hg6.block _ (lt_of_heap HB8.out) (by simp; omega)).trans HB8.out⟩
      have hf6 : Fr (fun _ => False) w w6 := (FW.out).grown hg6 fun i e => by cases e; exact .inr (by omega)
      have z0 := cell_of hb6 0
      have z1 := cell_of hb6 1
      have z2 := cell_of hb6 2
      simp [Value.cells] at z0 z1 z2
      have F6 := Lib.hid hf6
      have S6 := Lib.hid hS6
      clear hb6 hg6 hf6 hS6
      go_wp2_with fail
      refine ⟨fun _ _ => S6.out, ?_⟩
      refine Lcl.wpG_one 24 rfl (by kernel_rfl) ?_
      go_wp2_with fail
      refine ⟨fun _ _ => S6.out, ?_⟩
      refine Lcl.wpG_run [25] _ _ _ (by kernel_rfl) ?_
      simp only [List.map_cons, List.map_nil, List.getElem?_toArray, List.getElem?_cons_succ, List.getElem?_cons_zero, Option.getD_some]

      go_wp2_with fail
      refine bodyPost_ret (v := .tuple #[keyV ⟨g, t, i⟩, .int .i64 a, .bool false]) (by simp [results, Try.f23, go_sem, keyV, z0, z1, z2]) rfl ⟨?_, F6.out⟩
      have hall : false = rdOK e0 e1 e2 e3 f to3 last n rbare rat a rkey rval Rkey := by
        unfold rdOK
        simp only [HEE.out, Bool.false_and, Bool.true_and, Bool.and_false, Bool.and_true]
      rw [hall]
      have hks := HENT.out
      rw [hks]
    | true =>
      rw [hE] at he
      have HEE := Lib.hid hE
      clear hE
      cases hF : (f == 0) with
      | false =>
        refine Lcl.wp_region_calm (by kernel_rfl) [(true, [1, 3]), (false, [0, 2]), (true, [4, 5, 6, 7, 8, 9, 10, 11, 12, 13, 14, 15, 16, 17, 19]), (false, [18, 20]), (true, [21, 22])] #[0, 0, 0, 0, 12, 28, 60, 124, 252, 508, 1020, 2044, 4092, 8188, 16380, 32764, 65532, 131068, 262140, 131068, 655356, 2097148, 4194300, 131069, 8519679, 33554431] [0, 1, 2, 3, 4, 5, 6, 7, 8, 9, 10, 11, 12, 13, 14, 15, 16, 17, 18, 19, 20, 21, 22, 23, 24] 3 #[true, true, true, true, true, true, true, true, true, true, true, true, true, true, true, true, true, true, true, true, true, true, true, false, false, false] (by kernel_rfl) (by kernel_rfl) (by kernel_rfl) SS (by rw [HSS.out]; exact ⟨HB0.out, HB1.out, HB2.out, HB8.out⟩) (fun d c a v w h => by cases d <;> exact h) ?_
        simp only [Lcl.opsOf, List.map_cons, List.map_nil, List.getElem?_toArray, List.getElem?_cons_succ, List.getElem?_cons_zero, Option.getD_some]
        refine Lcl.wpCalm_t ?_
        repeat (go_big_quiet_step (rfl))
        refine wpQuiet_nil ?_
        refine Lcl.wpCalm_f ?_
        repeat (go_big_quiet_step (rfl))
        refine wpQuiet_nil ?_
        refine Lcl.wpCalm_t ?_
        repeat (go_big_quiet_step (rfl))
        refine wpQuiet_nil ?_
        refine Lcl.wpCalm_f ?_
        repeat (go_big_quiet_step (rfl))
        refine wpQuiet_nil ?_
        refine Lcl.wpCalm_t ?_
        repeat (go_big_quiet_step (rfl))
        refine wpQuiet_nil ?_
        refine Lcl.wpCalm_nil ?_
        clear x1 x2 x3 x4 x5 x6 x7 x8 x9 he
        refine Lcl.wpG_one 23 rfl (by kernel_rfl) ?_
        refine wpList_store_all rfl 36 (.tmp 2) (.tmp 98) rfl (w.heap.size + 1) rfl 36 _ (.agg #[.string g, .string t, .int .i64 i]) rfl HB1.out rfl (by kernel_rfl) rfl ?_
        intro w6 hb6 hg6
        have hS6 : SS w6 := by
          rw [HSS.out]
          exact ⟨(hg6.block _ (lt_of_heap HB0.out) (by simp)).trans HB0.out, hb6, (hg6.block _ (lt_of_heap HB2.out) (by simp)).trans HB2.out, (hg6.block _ (lt_of_heap HB8.out) (by simp; omega)).trans HB8.out⟩
        have hf6 : Fr (fun _ => False) w w6 := (FW.out).grown hg6 fun i e => by cases e; exact .inr (by omega)
        have z0 := cell_of hb6 0
        have z1 := cell_of hb6 1
        have z2 := cell_of hb6 2
        simp [Value.cells] at z0 z1 z2
        have F6 := Lib.hid hf6
        have S6 := Lib.hid hS6
        clear hb6 hg6 hf6 hS6
        go_wp2_with fail
        refine ⟨fun _ _ => S6.out, ?_⟩
        refine Lcl.wpG_one 24 rfl (by kernel_rfl) ?_
        go_wp2_with fail
        refine ⟨fun _ _ => S6.out, ?_⟩
        refine Lcl.wpG_run [25] _ _ _ (by kernel_rfl) ?_
        simp only [List.map_cons, List.map_nil, List.getElem?_toArray, List.getElem?_cons_succ, List.getElem?_cons_zero, Option.getD_some]

        go_wp2_with fail
        refine bodyPost_ret (v := .tuple #[keyV ⟨g, t, i⟩, .int .i64 a, .bool false]) (by simp [results, Try.f23, go_sem, keyV, z0, z1, z2]) rfl ⟨?_, F6.out⟩
        have hall : false = rdOK e0 e1 e2 e3 f to3 last n rbare rat a rkey rval Rkey := by
          unfold rdOK
          simp only [HEE.out, hF, Bool.false_and, Bool.true_and, Bool.and_false, Bool.and_true]
        rw [hall]
        have hks := HENT.out
        rw [hks]
      | true =>
        refine Lcl.wp_region_calm (by kernel_rfl) [(true, [1, 3]), (false, [0, 2]), (true, [4, 5, 6, 7, 8, 9, 10, 11, 12, 13, 14, 15, 16, 17, 19]), (false, [18, 20]), (true, [21, 22])] #[0, 0, 0, 0, 12, 28, 60, 124, 252, 508, 1020, 2044, 4092, 8188, 16380, 32764, 65532, 131068, 262140, 131068, 655356, 2097148, 4194300, 131069, 8519679, 33554431] [0, 1, 2, 3, 4, 5, 6, 7, 8, 9, 10, 11, 12, 13, 14, 15, 16, 17, 18, 19, 20, 21, 22, 23, 24] 3 #[true, true, true, true, true, true, true, true, true, true, true, true, true, true, true, true, true, true, true, true, true, true, true, false, false, false] (by kernel_rfl) (by kernel_rfl) (by kernel_rfl) SS (by rw [HSS.out]; exact ⟨HB0.out, HB1.out, HB2.out, HB8.out⟩) (fun d c a v w h => by cases d <;> exact h) ?_
        simp only [Lcl.opsOf, List.map_cons, List.map_nil, List.getElem?_toArray, List.getElem?_cons_succ, List.getElem?_cons_zero, Option.getD_some]
        refine Lcl.wpCalm_t ?_
        repeat (go_big_quiet_step (rfl))
        refine wpQuiet_nil ?_
        refine Lcl.wpCalm_f ?_
        repeat (go_big_quiet_step (rfl))
        refine wpQuiet_nil ?_
        refine Lcl.wpCalm_t ?_
        repeat (go_big_quiet_step (rfl))
        refine wpQuiet_nil ?_
        refine Lcl.wpCalm_f ?_
        repeat (go_big_quiet_step (rfl))
        refine wpQuiet_nil ?_
        refine Lcl.wpCalm_t ?_
        repeat (go_big_quiet_step (rfl))
        refine wpQuiet_nil ?_
        refine Lcl.wpCalm_nil ?_
        clear x1 x2 x3 x4 x5 x6 x7 x8 x9 he
        refine Lcl.wpG_one 23 rfl (by kernel_rfl) ?_
        refine wpList_store_all rfl 36 (.tmp 2) (.tmp 98) rfl (w.heap.size + 1) rfl 36 _ (.agg #[.string g, .string t, .int .i64 i]) rfl HB1.out rfl (by kernel_rfl) rfl ?_
        intro w6 hb6 hg6
        have hS6 : SS w6 := by
          rw [HSS.out]
          exact ⟨(hg6.block _ (lt_of_heap HB0.out) (by simp)).trans HB0.out, hb6, (hg6.block _ (lt_of_heap HB2.out) (by simp)).trans HB2.out, (hg6.block _ (lt_of_heap HB8.out) (by simp; omega)).trans HB8.out⟩
        have hf6 : Fr (fun _ => False) w w6 := (FW.out).grown hg6 fun i e => by cases e; exact .inr (by omega)
        have z0 := cell_of hb6 0
        have z1 := cell_of hb6 1
        have z2 := cell_of hb6 2
        simp [Value.cells] at z0 z1 z2
        have F6 := Lib.hid hf6
        have S6 := Lib.hid hS6
        clear hb6 hg6 hf6 hS6
        go_wp2_with fail
        refine ⟨fun _ _ => S6.out, ?_⟩
        refine Lcl.wpG_one 24 rfl (by kernel_rfl) ?_
        go_wp2_with fail
        refine ⟨fun _ _ => S6.out, ?_⟩
        refine Lcl.wpG_run [25] _ _ _ (by kernel_rfl) ?_
        simp only [List.map_cons, List.map_nil, List.getElem?_toArray, List.getElem?_cons_succ, List.getElem?_cons_zero, Option.getD_some]

        go_wp2_with fail
        refine bodyPost_ret (v := .tuple #[keyV ⟨g, t, i⟩, .int .i64 a, .bool false]) (by simp [results, Try.f23, go_sem, keyV, z0, z1, z2]) rfl ⟨?_, F6.out⟩
        have hall : false = rdOK e0 e1 e2 e3 f to3 last n rbare rat a rkey rval Rkey := by
          unfold rdOK
          simp only [HEE.out, hF, HW4.out, Bool.false_and, Bool.true_and, Bool.and_false, Bool.and_true]
        rw [hall]
        have hks := HENT.out
        rw [hks]
end Go.Proofs.Ytdgdhegbcjimbaa
