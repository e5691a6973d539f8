/- The document's table: Commit: the walk. -/
import Derived.Test.YtdgdhegbcjimbaaD4
namespace Go.Proofs.Ytdgdhegbcjimbaa
open Go.RowKit Go.Fm Go.BigFrame
set_option linter.unusedVariables false
set_option linter.unusedSimpArgs false

def rput (L : List Row) (k : Key) (a : Int) : List Row :=
  if (getL L k).isSome = true then L.set (fidx L k).toNat (k, a) else L.takeWhile (fun r => aheadB r.1 k) ++ (k, a) :: L.dropWhile (fun r => aheadB r.1 k)
def rcommitL (room : Int) (L : List Row) (k : Key) (a : Int) : List Row := if commitE room L k a = 0 then rput L k a else L
def RCommitPost (B kb : Nat) (v : Value) (room : Int) (L : List Row) (k : Key) (a : Int) (w : World) (e : Ending) (w' : World) : Prop :=
  e = .returned (.int .i64 (commitE room L k a)) ∧ ∃ v', RTbl w' B kb v' room (rcommitL room L k a) ∧ Fr (fun i => i = kb ∨ v.ownBlock = some i) w w'
theorem set_flat : ∀ (L : List Row) (j : Nat) (r r' : Row), L[j]? = some r → r'.1 = r.1 → (L.set j r').flatMap rowC = (L.flatMap rowC).set (j * 4 + 3) (.int .i64 r'.2)
  | [], j, r, r', h, _ => by simp at h
  | x :: L, 0, r, r', h, he => by
    simp at h
    subst h
    obtain ⟨k', a'⟩ := r'
    dsimp only at he
    subst he
    rfl
  | x :: L, j + 1, r, r', h, he => by
    rw [List.set_cons_succ, List.flatMap_cons, List.flatMap_cons, set_flat L j r r' (by simpa using h) he]
    have e : (j + 1) * 4 + 3 = (j * 4 + 3) + 4 := by omega
    rw [e, List.set_append_right _ _ (by rw [rowC_len]; omega), rowC_len, Nat.add_sub_cancel]
/-- A row's offset written. -/
theorem RTbl.put {w : World} {B kb g n cap : Nat} {room : Int} {L : List Row} (h : RTbl w B kb (.slice (some ⟨g, 0, none⟩) n cap) room L) {j : Nat} {k : Key} {a a' : Int} (hj : L[j]? = some (k, a)) (hgk : g ≠ kb) :
    RTbl (w.setCell ⟨g, j * 4 + 3, none⟩ (.int .i64 a')) B kb (.slice (some ⟨g, 0, none⟩) n cap) room (L.set j (k, a')) := by
  have hlt := (List.getElem?_eq_some_iff.1 hj).1
  have hset := set_flat L j (k, a) (k, a') hj rfl
  refine ⟨by rw [heap_setCell_ne _ (fun e => hgk e.symm)]; exact h.cells, ?_, by rw [List.length_set]; exact h.len, h.base⟩
  rw [List.length_set, hset]
  refine ⟨by rw [List.length_set]; exact h.rows.1, ?_⟩
  rcases h.rows.2 with ⟨h0, -⟩ | ⟨g', cap', cur, hv, hb, hg, h1, h2, h3, h4⟩
  · cases h0
  · injection hv with e1 e2 e3
    injection e1 with e1
    injection e1 with e1
    subst e1 e3
    refine .inr ⟨_, _, cur.setIfInBounds (j * 4 + 3) (.int .i64 a'), by rw [e2], hb, heap_setCell_self hg _, h1, h2, by simp [h3], ?_⟩
    rw [Array.toList_setIfInBounds, ← h4, List.take_set]
theorem RTbl.fz {w : World} {B kb g n cap : Nat} {room : Int} {L : List Row} (h : RTbl w B kb (.slice (some ⟨g, 0, none⟩) n cap) room L) {j : Nat} : w.frozen? ⟨g, j, none⟩ = false := by
  rcases h.rows.2 with ⟨h0, -⟩ | ⟨g', cap', cur, hv, hb, hg, h1, h2, h3, h4⟩
  · cases h0
  · injection hv with e1 e2 e3
    injection e1 with e1
    injection e1 with e1
    subst e1
    exact fz_of hg j
theorem RTbl.cap {w : World} {B kb g n cap : Nat} {room : Int} {L : List Row} (h : RTbl w B kb (.slice (some ⟨g, 0, none⟩) n cap) room L) : L.length ≤ cap := by
  rcases h.rows.2 with ⟨h0, -⟩ | ⟨g', cap', cur, hv, -, -, h1, -⟩
  · cases h0
  · injection hv with e1 e2 e3; subst e3; exact h1
theorem while_of {L : List Row} {k : Key} {i : Nat} (hi : i ≤ L.length) (h1 : ∀ j r, j < i → L[j]? = some r → aheadB r.1 k = true) (h2 : ∀ r, L[i]? = some r → aheadB r.1 k = false) :
    L.takeWhile (fun r => aheadB r.1 k) = L.take i ∧ L.dropWhile (fun r => aheadB r.1 k) = L.drop i := by
  induction L generalizing i with
  | nil => simp at hi; subst hi; simp
  | cons x r ih =>
    cases i with
    | zero =>
      have := h2 x rfl
      simp [List.takeWhile_cons, List.dropWhile_cons, this]
    | succ i =>
      have hx := h1 0 x (by omega) rfl
      obtain ⟨e1, e2⟩ := ih (i := i) (by simpa using hi) (fun j r hj hr => h1 (j + 1) r (by omega) (by simpa using hr)) (fun r hr => h2 r (by simpa using hr))
      simp [List.takeWhile_cons, List.dropWhile_cons, hx, e1, e2]
theorem rows_done {B kb : Nat} {v v2 : Value} {n2 : Nat} {xs : List Value} {room : Int} {L L' : List Row} {w w2 : World} {S : Nat → Prop} (h : RTbl w B kb v room L) (hf : Fr (fun _ => False) w w2)
    (ho : w2.ownsRow w.heap.size 77 4 v2 n2 xs) (hn : n2 = L'.length) (hx : xs = L'.flatMap rowC) (hl : L'.length ≤ 10000) (hB : B ≤ w.heap.size) (hS : S kb) :
    ∃ v', RTbl (w2.setCell ⟨kb, 1, none⟩ v2) B kb v' room L' ∧ Fr S w (w2.setCell ⟨kb, 1, none⟩ v2) := by
  subst hn hx
  have hkl := lt_of_heap h.cells
  have hk := (hf.block kb hkl fun h => h).trans h.cells
  refine ⟨_, ⟨by rw [heap_setCell_self hk]; rfl, ?_, hl, h.base⟩, Fr.setCell (hf.mono fun i e => e.elim) (.inl hS) _⟩
  exact own_eq (ho.mono hB) fun k hk' => heap_setCell_ne _ (by have := (own_lt ho hk').1; omega) _
theorem commit_bad (k : Key) (a : Int) (B kb : Nat) (v : Value) (room : Int) (L : List Row) (w : World) (h : RTbl w B kb v room L) (hbad : ¬ (mayB k = true ∧ withinB a 0 = true)) :
    Calls Try.prog 29 #[.pointer (some ⟨kb, 0, none⟩), .string k.g, .agg #[.string k.t, .int .i64 k.i], .int .i64 a] w (RCommitPost B kb v room L k a w) := by
  have hE : commitE room L k a = 1 := by unfold commitE; rw [if_neg hbad]
  have hL : rcommitL room L k a = L := by unfold rcommitL; rw [if_neg (by rw [hE]; decide)]
  unfold RCommitPost
  rw [hE, hL]
  have hf0 := (Fr.same w).alloc (.cells #[.string k.t, .int .i64 k.i] 29)
  have H := Lib.hid h
  have F0 := Lib.hid hf0
  clear h hf0 hE hL
  by_cases hm : mayB k = true
  · have ha : ¬ withinB a 0 = true := fun h => hbad ⟨hm, h⟩
    have ha2 : a < 0 ∨ (¬ a < 0 ∧ 1099511627776 < a) := by simp [withinB] at ha; omega
    have HM := Lib.hid hm
    clear hm ha hbad
    rcases ha2 with h | ⟨h, h'⟩
    all_goals
      go_enter Try.func29, Try.ntmps29
      go_wp2_with (go_at_call 48; refine (rkey_walk k true HM.out _).mono ?_; rintro e w2 ⟨rfl, hf2⟩)
      go_ret
      exact ⟨rfl, v, (H.out.old F0.out).old hf2, (F0.out.tr hf2).mono fun i e => e.elim⟩
  · have HM := Lib.hid (show mayB k = false by simpa using hm)
    clear hm hbad
    go_enter Try.func29, Try.ntmps29
    go_wp2_with (go_at_call 48; refine (rkey_walk k false HM.out _).mono ?_; rintro e w2 ⟨rfl, hf2⟩)
    go_ret
    exact ⟨rfl, v, (H.out.old F0.out).old hf2, (F0.out.tr hf2).mono fun i e => e.elim⟩
set_option maxRecDepth 100000 in
set_option maxHeartbeats 16000000 in
theorem rcommit_walk (k : Key) (a : Int) (B kb : Nat) (v : Value) (room : Int) (L : List Row) (w : World) (h : RTbl w B kb v room L) (hB : B ≤ w.heap.size) (hroom : room ≤ 10000) :
    Calls Try.prog 29 #[.pointer (some ⟨kb, 0, none⟩), .string k.g, .agg #[.string k.t, .int .i64 k.i], .int .i64 a] w (RCommitPost B kb v room L k a w) := by
  by_cases hbad : mayB k = true ∧ withinB a 0 = true
  · obtain ⟨hm, ha⟩ := id hbad
    have ha2 : 0 ≤ a ∧ a ≤ 1099511627776 := by simpa [withinB] using ha
    have hf0 := (Fr.same w).alloc (.cells #[.string k.t, .int .i64 k.i] 29)
    have hp0 := heap_alloc_self w (.cells #[.string k.t, .int .i64 k.i] 29)
    have H := Lib.hid (h.old hf0)
    have F0 := Lib.hid hf0
    have P0 := Lib.hid hp0
    have HM := Lib.hid hm
    have HB := Lib.hid hbad
    have hlen := h.len
    have hcases := fidx_cases L k
    have g1 : decide (a < 0) = false := by simp; omega
    have g2 : decide (1099511627776 < a) = false := by simp; omega
    obtain ⟨oa, cap, rfl⟩ := h.slice
    have hkl := lt_of_heap h.cells
    have hkb0 : kb ≠ w.heap.size := by omega
    have HW := Lib.hid h
    clear h hf0 hp0 hm ha hbad
    obtain ⟨i0, hi0, hz0, hz1, hz2⟩ := info_parts info77
    have HI := Lib.hid hi0
    clear hi0
    obtain ⟨E, hE0⟩ : ∃ E, Hid (E = commitE room L k a) := ⟨_, Lib.hid rfl⟩
    obtain ⟨R, hR0⟩ : ∃ R, Hid (R = rcommitL room L k a) := ⟨_, Lib.hid rfl⟩
    unfold RCommitPost
    rw [← hE0.out, ← hR0.out]
    go_enter Try.func29, Try.ntmps29
    go_wp2_with (go_at_call 48; refine (rkey_walk k true HM.out _).mono ?_; rintro e w2 ⟨rfl, hf2⟩; have F2 := Lib.hid (F0.out.tr hf2); have H2 := Lib.hid (H.out.old hf2); have hp2 := (hf2.block _ (lt_of_heap P0.out) fun h => h).trans P0.out; have P2 := Lib.hid hp2; have p0 := (cell_of hp2 0).trans rfl; have p1 := (cell_of hp2 1).trans rfl; simp at p0 p1; clear hf2 hp2)
    refine (find_walk k B kb _ room L _ H2.out).mono ?_
    rintro e w3 ⟨rfl, hf3⟩
    have F3 := Lib.hid (F2.out.tr hf3)
    have H3 := Lib.hid (H2.out.old hf3)
    have hp3 := (hf3.block _ (lt_of_heap P2.out) fun h => h).trans P2.out
    have P3 := Lib.hid hp3
    have e1 := (cell_of H3.out.cells 1).trans rfl
    have e0 := (cell_of H3.out.cells 0).trans rfl
    simp at e1 e0
    clear hf3 hp3 p0 p1 g1 g2 H H2 F2 P2
    rcases hcases with ⟨hg, hi⟩ | ⟨j, b, hi, hj, hg⟩
    · rw [hi]
      by_cases hfull : (L.length : Int) < room
      · have hE : commitE room L k a = 0 := by unfold commitE; rw [if_pos HB.out, if_pos (.inr hfull)]
        have hL : rcommitL room L k a = L.takeWhile (fun r => aheadB r.1 k) ++ (k, a) :: L.dropWhile (fun r => aheadB r.1 k) := by unfold rcommitL; rw [if_pos hE]; unfold rput; rw [if_neg (by rw [hg]; simp)]
        have HE := Lib.hid (hE0.out.trans hE)
        have HR := Lib.hid (hR0.out.trans hL)
        have g3 : decide (room ≤ (L.length : Int)) = false := by simp; omega
        have hl2 : L.length < 10000 := by omega
        clear hE hL hi hg
        go_wp2_with fail
        go_quiet (fail)
        have F4 := Lib.hid (F3.out.drewN nq)
        have H4 := Lib.hid (H3.out.old ((Fr.same w3).drewN nq))
        have hp4 : (w3.drewN nq).heap[w.heap.size]? = some (.cells #[.string k.t, .int .i64 k.i] 29 (0, 0)) := P3.out
        have P4 := Lib.hid hp4
        clear e0 e1 F3 H3 P3 g3 hp4
        generalize w3.drewN nq = w4 at *
        go_wp2_with fail
        go_loopw [10] (fun iv wr => ∃ i : Nat, iv = .int .i64 i ∧ i ≤ L.length ∧ (∀ j r, j < i → L[j]? = some r → aheadB r.1 k = true) ∧ Fr (fun _ => False) w4 wr) (fun iv _ => L.length - (intOf iv).toNat)
        case atStart => exact ⟨0, rfl, Nat.zero_le _, fun j r hj => by omega, Fr.same _⟩
        case round =>
          obtain ⟨i, rfl, hi, hah, hf⟩ := hrel
          have AH := Lib.hid hah
          have F := Lib.hid hf
          have HR5 := Lib.hid (H4.out.old hf)
          have hp5 := (hf.block _ (lt_of_heap P4.out) fun h => h).trans P4.out
          have P5 := Lib.hid hp5
          clear hah hf hp5
          rcases Nat.lt_or_ge i L.length with hlt | hge
          · obtain ⟨x, hx⟩ := get_of_lt hlt
            obtain ⟨g, rfl, -, -, c0, c1, c2, c3⟩ := HR5.out.at hx
            have HX := Lib.hid hx
            have g4 : decide ((i : Int) < L.length) = true := by simp; omega
            have x0 : ∀ y : Lcl.InS (fun w' => Fr (fun _ => False) wr w'), y.w.cell? ⟨kb, 1, none⟩ = some (.slice (some ⟨g, 0, none⟩) L.length cap) := fun y => y.h.cel ((cell_of HR5.out.cells 1).trans rfl)
            have x1 : ∀ y : Lcl.InS (fun w' => Fr (fun _ => False) wr w'), y.w.cell? ⟨w.heap.size, 0, none⟩ = some (.string k.t) := fun y => y.h.cel ((cell_of P5.out 0).trans rfl)
            have x2 : ∀ y : Lcl.InS (fun w' => Fr (fun _ => False) wr w'), y.w.cell? ⟨w.heap.size, 1, none⟩ = some (.int .i64 k.i) := fun y => y.h.cel ((cell_of P5.out 1).trans rfl)
            have x3 : ∀ y : Lcl.InS (fun w' => Fr (fun _ => False) wr w'), y.w.cell? ⟨g, i * 4, none⟩ = some (.string x.1.g) := fun y => y.h.cel c0
            have x4 : ∀ y : Lcl.InS (fun w' => Fr (fun _ => False) wr w'), y.w.cell? ⟨g, i * 4 + 1, none⟩ = some (.string x.1.t) := fun y => y.h.cel c1
            have x5 : ∀ y : Lcl.InS (fun w' => Fr (fun _ => False) wr w'), y.w.cell? ⟨g, i * 4 + 2, none⟩ = some (.int .i64 x.1.i) := fun y => y.h.cel c2
            have x6 : ∀ y : Lcl.InS (fun w' => Fr (fun _ => False) wr w'), y.w.cell? ⟨g, i * 4 + 3, none⟩ = some (.int .i64 x.2) := fun y => y.h.cel c3
            have fah : ∀ y : Lcl.InS (fun w' => Fr (fun _ => False) wr w'), Calls Try.prog 50 #[.agg #[.string x.1.g, .string x.1.t, .int .i64 x.1.i, .int .i64 x.2], .string k.g, .agg #[.string k.t, .int .i64 k.i]] y.w fun e w' => e = .returned (.bool (aheadB x.1 k)) ∧ ∃ y : Lcl.InS (fun w' => Fr (fun _ => False) wr w'), w' = y.w := fun y => quietly y (ahead_walk x k _)
            clear c0 c1 c2 c3
            go_wp2_with fail
            refine wp_region_quiet (C := fun w' => ∃ y : Lcl.InS (fun w' => Fr (fun _ => False) wr w'), w' = y.w) (by kernel_rfl) (by kernel_rfl) ⟨⟨wr.drew, (Fr.same wr).drew⟩, rfl⟩ ?_
            dsimp only
            repeat (go_big_quiet_step (first | with_reducible rfl | exact fah _))
            refine wpQuiet_nil ?_
            rintro _ ⟨y, rfl⟩
            have F6w := Lib.hid (F.out.tr y.h)
            clear x0 x1 x2 x3 x4 x5 x6 fah g4
            generalize y.w = w6 at *
            clear y
            by_cases ha : aheadB x.1 k = true
            · rw [ha]
              have AH2 := Lib.hid (show ∀ j r, j < i + 1 → L[j]? = some r → aheadB r.1 k = true from fun j r hj hr => by
                rcases Nat.lt_or_ge j i with h | h
                · exact AH.out j r h hr
                · obtain rfl : j = i := by omega
                  rw [HX.out] at hr; injection hr with hr; subst hr; exact ha)
              go_wp2_with fail
              go_roundw
              case rel => exact ⟨i + 1, by go_num, hlt, AH2.out, F6w.out⟩
              case measure => simp [intOf]; omega
            · have ha2 : aheadB x.1 k = false := by simpa using ha
              rw [ha2]
              obtain ⟨ht, hd⟩ := while_of (k := k) hi AH.out (fun r hr => by rw [HX.out] at hr; injection hr with hr; subst hr; exact ha2)
              rw [ht, hd] at HR
              have H6 := Lib.hid (H4.out.old F6w.out)
              have F6 := Lib.hid (F4.out.tr F6w.out)
              have hp6 := (F6w.out.block _ (lt_of_heap P4.out) fun h => h).trans P4.out
              have P6 := Lib.hid hp6
              have e1 := (cell_of H6.out.cells 1).trans rfl
              simp at e1
              have hcap := H6.out.cap
              have PT := Lib.hid (H6.out.part 0 i)
              have PD := Lib.hid (H6.out.part i (L.length - i))
              have gi : ¬ cap = i := by omega
              have gi2 : ¬ cap - i = 0 := by omega
              clear ha ha2 ht hd hp6 F6w F HR5 P5
              go_wp2_with (at_builtin; refine wpList_append_own2 _ rfl (.tmp 69) (.tmp 75) 49 rfl w.heap.size 77 i0 _ 4 48 Try.underlying49 HI.out hz0 hz1 hz2 rfl (by decide) (.slice none 0 0) 0 [] rfl (World.ownsRow_nil _ _ _ _) ⟨g, 0, none⟩ i cap ((L.take i).flatMap rowC) rfl ?a1 ?a2 ?a3 ?a4 ?a5 ?a6 ?_)
              case a1 => rw [rowC_flat, List.length_take]; omega
              case a2 => intro j u hu; have := PT.out j u hu; simpa [Addr.add] using this
              case a3 => exact rowC_one _
              case a4 => unfold maxLen; omega
              case a5 => omega
              case a6 => exact F6.out.size
              intro v7 w7 ho7 hg7 hb7
              have f67 : Fr (fun _ => False) w6 w7 := (Fr.same w6).grown hg7 fun k hk => by cases hk
              have F7 := Lib.hid (F6.out.tr f67)
              obtain ⟨o7, c7, hv7, -⟩ := own_slice ho7
              subst hv7
              have O7 := Lib.hid ho7
              have hp7 := (f67.block _ (lt_of_heap P6.out) fun h => h).trans P6.out
              have p0 := (cell_of hp7 0).trans rfl
              have p1 := (cell_of hp7 1).trans rfl
              simp at p0 p1
              have PD7 := Lib.hid (fun j u h => f67.cel (PD.out j u h))
              have HK7 := Lib.hid ((f67.block kb (lt_of_heap H6.out.cells) fun h => h).trans H6.out.cells)
              clear ho7 hg7 hb7 f67 e1 hp7 PT PD H6 P6 F6
              have O8 := Lib.hid (show (w7.alloc (.cells #[.string k.g, .string k.t, .int .i64 k.i, .int .i64 a] 77)).ownsRow w.heap.size 77 4 (.slice o7 i c7) i ((L.take i).flatMap rowC) from own_eq O7.out fun i hi => heap_alloc_lt _ (own_lt O7.out hi).2)
              have F8 := Lib.hid (F7.out.alloc (.cells #[.string k.g, .string k.t, .int .i64 k.i, .int .i64 a] 77))
              have Q8 := Lib.hid (heap_alloc_self w7 (.cells #[.string k.g, .string k.t, .int .i64 k.i, .int .i64 a] 77))
              go_wp2_with (at_builtin; refine wpList_append_own2 _ rfl (.tmp 77) (.tmp 82) 49 rfl w.heap.size 77 i0 _ 4 48 Try.underlying49 HI.out hz0 hz1 hz2 rfl (by decide) (.slice o7 i c7) i _ rfl O8.out ⟨w7.heap.size, 0, none⟩ 1 1 (rowC (k, a)) rfl ?b1 ?b2 ?b3 ?b4 ?b5 ?b6 ?_)
              case b1 => rfl
              case b2 => intro j u hu; rw [add_lit, cell_of Q8.out]; simpa [rowC] using hu
              case b3 => intro u hu; exact rowC_one [(k, a)] u (by simpa using hu)
              case b4 => unfold maxLen; omega
              case b5 => omega
              case b6 => exact F8.out.size
              intro v9 w9 ho9 hg9 hb9
              have F9 := Lib.hid (F8.out.grown hg9 fun k hk => .inr (own_lt O8.out hk).1)
              obtain ⟨o9, c9, hv9, -⟩ := own_slice ho9
              subst hv9
              have O9 := Lib.hid ho9
              have H9 := Lib.hid (HW.out.old F9.out)
              have e1 := (cell_of H9.out.cells 1).trans rfl
              simp at e1
              have PD9 := Lib.hid (H9.out.part i (L.length - i))
              clear ho9 hg9 hb9 p0 p1 PD7 HK7 O7 O8 Q8 F7 F8
              go_wp2_with (at_builtin; refine wpList_append_own2 _ rfl (.tmp 85) (.tmp 91) 49 rfl w.heap.size 77 i0 _ 4 48 Try.underlying49 HI.out hz0 hz1 hz2 rfl (by decide) (.slice o9 (i + 1) c9) (i + 1) _ rfl O9.out ⟨g, i * 4, none⟩ (L.length - i) (cap - i) ((L.drop i).flatMap rowC) rfl ?f1 ?f2 ?f3 ?f4 ?f5 ?f6 ?_)
              case f1 => rw [rowC_flat, List.length_drop]
              case f2 => intro j u hu; have := PD9.out j u (by rw [List.take_of_length_le (by rw [List.length_drop]; exact Nat.le_refl _)]; exact hu); rw [add_lit] at this; exact this
              case f3 => exact rowC_one _
              case f4 => unfold maxLen; omega
              case f5 => omega
              case f6 => exact F9.out.size
              intro v11 w11 ho11 hg11 hb11
              have F11 := Lib.hid (F9.out.grown hg11 fun k hk => .inr (own_lt O9.out hk).1)
              obtain ⟨o11, c11, hv11, -⟩ := own_slice ho11
              subst hv11
              have O11 := Lib.hid ho11
              have hk11 := (F11.out.block kb hkl fun h => h).trans HW.out.cells
              have HK11 := Lib.hid hk11
              have e2 := (cell_of hk11 1).trans rfl
              have z2 := fz_of hk11 1
              simp at e2
              clear ho11 hg11 hb11 hk11 e1 H9 PD9
              go_wp2_with fail
              go_ret
              exact ⟨by rw [HE.out]; rfl, by rw [HR.out]; exact rows_done HW.out F11.out O11.out (by simp; omega) (by simp [rowC]) (by simp; omega) hB (.inl rfl)⟩
          · obtain rfl : i = L.length := by omega
            obtain ⟨ht, hd⟩ := while_of (k := k) hi AH.out (fun r hr => by rw [List.getElem?_eq_none (by omega)] at hr; cases hr)
            rw [ht, hd, List.take_length, List.drop_length] at HR
            have g4 : decide ((L.length : Int) < L.length) = false := by simp
            have e1 := (cell_of HR5.out.cells 1).trans rfl
            simp at e1
            clear ht hd
            go_wp2_with fail
            go_quiet (fail)
            have H6 := Lib.hid (H4.out.old (F.out.drewN nq))
            have F6 := Lib.hid (F4.out.tr (F.out.drewN nq))
            have hp6 : (wr.drewN nq).heap[w.heap.size]? = some (.cells #[.string k.t, .int .i64 k.i] 29 (0, 0)) := P5.out
            have P6 := Lib.hid hp6
            clear e1 g4 HR5 F P5 hp6
            generalize wr.drewN nq = w6 at *
            have p0 := (cell_of P6.out 0).trans rfl
            have p1 := (cell_of P6.out 1).trans rfl
            have e1 := (cell_of H6.out.cells 1).trans rfl
            simp at e1 p0 p1
            obtain ⟨oa', cap', hv, hs, hn⟩ := own_slice HW.out.rows
            injection hv with h1 h2 h3
            subst h1 h3
            cases oa with
            | none =>
              have hL0 : L = [] := List.length_eq_zero_iff.1 (hn rfl).1
              have hcap0 : cap = 0 := by
                rcases HW.out.rows.2 with ⟨h0, -⟩ | ⟨g', cap', cur, hv, -⟩
                · injection h0
                · cases hv
              subst hL0 hcap0
              simp only [List.length_nil] at *
              clear hs hn
              have O8 := Lib.hid (World.ownsRow_nil (w6.alloc (.cells #[.string k.g, .string k.t, .int .i64 k.i, .int .i64 a] 77)) w.heap.size 77 4)
              have F8 := Lib.hid (F6.out.alloc (.cells #[.string k.g, .string k.t, .int .i64 k.i, .int .i64 a] 77))
              have Q8 := Lib.hid (heap_alloc_self w6 (.cells #[.string k.g, .string k.t, .int .i64 k.i, .int .i64 a] 77))
              go_wp2_with (at_builtin; refine wpList_append_own2 _ rfl (.tmp 77) (.tmp 82) 49 rfl w.heap.size 77 i0 _ 4 48 Try.underlying49 HI.out hz0 hz1 hz2 rfl (by decide) (.slice none 0 0) 0 [] rfl O8.out ⟨w6.heap.size, 0, none⟩ 1 1 (rowC (k, a)) rfl ?bz1 ?bz2 ?bz3 ?bz4 ?bz5 ?bz6 ?_)
              case bz1 => rfl
              case bz2 => intro j u hu; rw [add_lit, cell_of Q8.out]; simpa [rowC] using hu
              case bz3 => intro u hu; exact rowC_one [(k, a)] u (by simpa using hu)
              case bz4 => unfold maxLen; omega
              case bz5 => omega
              case bz6 => exact F8.out.size
              intro v9 w9 ho9 hg9 hb9
              have F9 := Lib.hid (F8.out.grown hg9 fun k hk => .inr (own_lt O8.out hk).1)
              obtain ⟨o9, c9, hv9, -, hn9⟩ := own_slice ho9
              have hc9 : 1 ≤ c9 := by
                rcases ho9.2 with ⟨-, h0⟩ | ⟨g, cap, cur, hv, -, -, h1, -⟩
                · cases h0
                · rw [hv9] at hv; injection hv with _ _ e; subst e; simpa using h1
              subst hv9
              cases o9 with
              | none => exact absurd (hn9 rfl).1 (by decide)
              | some q9 =>
                have O9 := Lib.hid ho9
                have H9 := Lib.hid (HW.out.old F9.out)
                have e1 := (cell_of H9.out.cells 1).trans rfl
                have z2 := fz_of H9.out.cells 1
                simp at e1
                clear hn9 ho9 hg9 hb9 p0 p1 O8 Q8 F8
                go_wp2_with fail
                go_ret
                exact ⟨by rw [HE.out]; rfl, by rw [HR.out]; exact rows_done HW.out F9.out O9.out (by simp) (by simp [rowC]) (by simp) hB (.inl rfl)⟩
            | some q =>
              obtain ⟨hq, -⟩ := hs q rfl
              generalize q.block = g at hq
              subst hq
              have hcap := H6.out.cap
              have PT := Lib.hid (show ∀ j u, (L.flatMap rowC)[j]? = some u → w6.cell? ((⟨g, 0, none⟩ : Addr).add j) = some u from fun j u hu => by
                have := H6.out.part 0 L.length j u (by rw [List.drop_zero, List.take_length]; exact hu)
                simpa [Addr.add] using this)
              clear hs hn
              by_cases hce : cap = L.length
              · subst hce
                go_wp2_with (at_builtin; refine wpList_append_own2 _ rfl (.tmp 69) (.tmp 75) 49 rfl w.heap.size 77 i0 _ 4 48 Try.underlying49 HI.out hz0 hz1 hz2 rfl (by decide) (.slice none 0 0) 0 [] rfl (World.ownsRow_nil _ _ _ _) ⟨g, 0, none⟩ L.length L.length (L.flatMap rowC) rfl ?ax1 ?ax2 ?ax3 ?ax4 ?ax5 ?ax6 ?_)
                case ax1 => first | exact rowC_flat _ | (have := rowC_flat L; simpa using this)
                case ax2 => intro j u hu; have := PT.out j u (by simpa using hu); first | exact this | (rw [add_lit] at this; exact this)
                case ax3 => first | exact rowC_one _ | (intro u x y h1 h2; exact rowC_one L u (List.mem_flatMap.2 ⟨_, h1, h2⟩))
                case ax4 => unfold maxLen; omega
                case ax5 => omega
                case ax6 => exact F6.out.size
                intro v7 w7 ho7 hg7 hb7
                have f67 : Fr (fun _ => False) w6 w7 := (Fr.same w6).grown hg7 fun k hk => by cases hk
                have F7 := Lib.hid (F6.out.tr f67)
                obtain ⟨o7, c7, hv7, -⟩ := own_slice ho7
                subst hv7
                have O7 := Lib.hid ho7
                have hp7 := (f67.block _ (lt_of_heap P6.out) fun h => h).trans P6.out
                have p0 := (cell_of hp7 0).trans rfl
                have p1 := (cell_of hp7 1).trans rfl
                simp at p0 p1
                have HK7 := Lib.hid ((f67.block kb (lt_of_heap H6.out.cells) fun h => h).trans H6.out.cells)
                clear ho7 hg7 hb7 f67 e1 hp7 PT H6 P6 F6
                have O8 := Lib.hid (show (w7.alloc (.cells #[.string k.g, .string k.t, .int .i64 k.i, .int .i64 a] 77)).ownsRow w.heap.size 77 4 (.slice o7 L.length c7) L.length (L.flatMap rowC) from own_eq O7.out fun i hi => heap_alloc_lt _ (own_lt O7.out hi).2)
                have F8 := Lib.hid (F7.out.alloc (.cells #[.string k.g, .string k.t, .int .i64 k.i, .int .i64 a] 77))
                have Q8 := Lib.hid (heap_alloc_self w7 (.cells #[.string k.g, .string k.t, .int .i64 k.i, .int .i64 a] 77))
                go_wp2_with (at_builtin; refine wpList_append_own2 _ rfl (.tmp 77) (.tmp 82) 49 rfl w.heap.size 77 i0 _ 4 48 Try.underlying49 HI.out hz0 hz1 hz2 rfl (by decide) (.slice o7 L.length c7) L.length _ rfl O8.out ⟨w7.heap.size, 0, none⟩ 1 1 (rowC (k, a)) rfl ?bx1 ?bx2 ?bx3 ?bx4 ?bx5 ?bx6 ?_)
                case bx1 => rfl
                case bx2 => intro j u hu; rw [add_lit, cell_of Q8.out]; simpa [rowC] using hu
                case bx3 => intro u hu; exact rowC_one [(k, a)] u (by simpa using hu)
                case bx4 => unfold maxLen; omega
                case bx5 => omega
                case bx6 => exact F8.out.size
                intro v9 w9 ho9 hg9 hb9
                have F9 := Lib.hid (F8.out.grown hg9 fun k hk => .inr (own_lt O8.out hk).1)
                obtain ⟨o9, c9, hv9, -⟩ := own_slice ho9
                subst hv9
                have O9 := Lib.hid ho9
                have H9 := Lib.hid (HW.out.old F9.out)
                have e1 := (cell_of H9.out.cells 1).trans rfl
                simp at e1
                clear ho9 hg9 hb9 p0 p1 HK7 O7 O8 Q8 F7 F8
                go_wp2_with (at_builtin; refine wpList_append_own2 _ rfl (.tmp 85) (.tmp 91) 49 rfl w.heap.size 77 i0 _ 4 48 Try.underlying49 HI.out hz0 hz1 hz2 rfl (by decide) (.slice o9 (L.length + 1) c9) (L.length + 1) _ rfl O9.out ⟨g, 0, none⟩ 0 0 [] rfl ?fx1 ?fx2 ?fx3 ?fx4 ?fx5 ?fx6 ?_)
                case fx1 => rfl
                case fx2 => intro j u hu; simp at hu
                case fx3 => intro u hu; simp at hu
                case fx4 => unfold maxLen; omega
                case fx5 => omega
                case fx6 => exact F9.out.size
                intro v11 w11 ho11 hg11 hb11
                have F11 := Lib.hid (F9.out.grown hg11 fun k hk => .inr (own_lt O9.out hk).1)
                obtain ⟨o11, c11, hv11, -⟩ := own_slice ho11
                subst hv11
                have O11 := Lib.hid ho11
                have hk11 := (F11.out.block kb hkl fun h => h).trans HW.out.cells
                have HK11 := Lib.hid hk11
                have e2 := (cell_of hk11 1).trans rfl
                have z2 := fz_of hk11 1
                simp at e2
                clear ho11 hg11 hb11 hk11 e1 H9
                go_wp2_with fail
                go_ret
                exact ⟨by rw [HE.out]; rfl, by rw [HR.out]; exact rows_done HW.out F11.out O11.out (by first | (simp; done) | (simp; omega)) (by simp [rowC]) (by first | (simp; done) | (simp; omega)) hB (.inl rfl)⟩
              · have hce2 : ¬ L.length = cap := fun h => hce h.symm
                have hce3 : ¬ cap - L.length = 0 := by omega
                go_wp2_with (at_builtin; refine wpList_append_own2 _ rfl (.tmp 69) (.tmp 75) 49 rfl w.heap.size 77 i0 _ 4 48 Try.underlying49 HI.out hz0 hz1 hz2 rfl (by decide) (.slice none 0 0) 0 [] rfl (World.ownsRow_nil _ _ _ _) ⟨g, 0, none⟩ L.length cap (L.flatMap rowC) rfl ?ay1 ?ay2 ?ay3 ?ay4 ?ay5 ?ay6 ?_)
                case ay1 => first | exact rowC_flat _ | (have := rowC_flat L; simpa using this)
                case ay2 => intro j u hu; have := PT.out j u (by simpa using hu); first | exact this | (rw [add_lit] at this; exact this)
                case ay3 => first | exact rowC_one _ | (intro u x y h1 h2; exact rowC_one L u (List.mem_flatMap.2 ⟨_, h1, h2⟩))
                case ay4 => unfold maxLen; omega
                case ay5 => omega
                case ay6 => exact F6.out.size
                intro v7 w7 ho7 hg7 hb7
                have f67 : Fr (fun _ => False) w6 w7 := (Fr.same w6).grown hg7 fun k hk => by cases hk
                have F7 := Lib.hid (F6.out.tr f67)
                obtain ⟨o7, c7, hv7, -⟩ := own_slice ho7
                subst hv7
                have O7 := Lib.hid ho7
                have hp7 := (f67.block _ (lt_of_heap P6.out) fun h => h).trans P6.out
                have p0 := (cell_of hp7 0).trans rfl
                have p1 := (cell_of hp7 1).trans rfl
                simp at p0 p1
                have HK7 := Lib.hid ((f67.block kb (lt_of_heap H6.out.cells) fun h => h).trans H6.out.cells)
                clear ho7 hg7 hb7 f67 e1 hp7 PT H6 P6 F6
                have O8 := Lib.hid (show (w7.alloc (.cells #[.string k.g, .string k.t, .int .i64 k.i, .int .i64 a] 77)).ownsRow w.heap.size 77 4 (.slice o7 L.length c7) L.length (L.flatMap rowC) from own_eq O7.out fun i hi => heap_alloc_lt _ (own_lt O7.out hi).2)
                have F8 := Lib.hid (F7.out.alloc (.cells #[.string k.g, .string k.t, .int .i64 k.i, .int .i64 a] 77))
                have Q8 := Lib.hid (heap_alloc_self w7 (.cells #[.string k.g, .string k.t, .int .i64 k.i, .int .i64 a] 77))
                go_wp2_with (at_builtin; refine wpList_append_own2 _ rfl (.tmp 77) (.tmp 82) 49 rfl w.heap.size 77 i0 _ 4 48 Try.underlying49 HI.out hz0 hz1 hz2 rfl (by decide) (.slice o7 L.length c7) L.length _ rfl O8.out ⟨w7.heap.size, 0, none⟩ 1 1 (rowC (k, a)) rfl ?by1 ?by2 ?by3 ?by4 ?by5 ?by6 ?_)
                case by1 => rfl
                case by2 => intro j u hu; rw [add_lit, cell_of Q8.out]; simpa [rowC] using hu
                case by3 => intro u hu; exact rowC_one [(k, a)] u (by simpa using hu)
                case by4 => unfold maxLen; omega
                case by5 => omega
                case by6 => exact F8.out.size
                intro v9 w9 ho9 hg9 hb9
                have F9 := Lib.hid (F8.out.grown hg9 fun k hk => .inr (own_lt O8.out hk).1)
                obtain ⟨o9, c9, hv9, -⟩ := own_slice ho9
                subst hv9
                have O9 := Lib.hid ho9
                have H9 := Lib.hid (HW.out.old F9.out)
                have e1 := (cell_of H9.out.cells 1).trans rfl
                simp at e1
                clear ho9 hg9 hb9 p0 p1 HK7 O7 O8 Q8 F7 F8
                go_wp2_with (at_builtin; refine wpList_append_own2 _ rfl (.tmp 85) (.tmp 91) 49 rfl w.heap.size 77 i0 _ 4 48 Try.underlying49 HI.out hz0 hz1 hz2 rfl (by decide) (.slice o9 (L.length + 1) c9) (L.length + 1) _ rfl O9.out ⟨g, L.length * 4, none⟩ 0 (cap - L.length) [] rfl ?fy1 ?fy2 ?fy3 ?fy4 ?fy5 ?fy6 ?_)
                case fy1 => rfl
                case fy2 => intro j u hu; simp at hu
                case fy3 => intro u hu; simp at hu
                case fy4 => unfold maxLen; omega
                case fy5 => omega
                case fy6 => exact F9.out.size
                intro v11 w11 ho11 hg11 hb11
                have F11 := Lib.hid (F9.out.grown hg11 fun k hk => .inr (own_lt O9.out hk).1)
                obtain ⟨o11, c11, hv11, -⟩ := own_slice ho11
                subst hv11
                have O11 := Lib.hid ho11
                have hk11 := (F11.out.block kb hkl fun h => h).trans HW.out.cells
                have HK11 := Lib.hid hk11
                have e2 := (cell_of hk11 1).trans rfl
                have z2 := fz_of hk11 1
                simp at e2
                clear ho11 hg11 hb11 hk11 e1 H9
                go_wp2_with fail
                go_ret
                exact ⟨by rw [HE.out]; rfl, by rw [HR.out]; exact rows_done HW.out F11.out O11.out (by first | (simp; done) | (simp; omega)) (by simp [rowC]) (by first | (simp; done) | (simp; omega)) hB (.inl rfl)⟩
      · have hE : commitE room L k a = 5 := by unfold commitE; rw [if_pos HB.out, if_neg (by rw [hg]; simp; omega)]
        have hL : rcommitL room L k a = L := by unfold rcommitL; rw [if_neg (by rw [hE]; decide)]
        have HE := Lib.hid (hE0.out.trans hE)
        have HR := Lib.hid (hR0.out.trans hL)
        have g3 : decide (room ≤ (L.length : Int)) = true := by simp; omega
        clear hE hL hi hg
        go_wp2_with fail
        go_quiet (fail)
        go_wp2_with fail
        go_ret
        exact ⟨by rw [HE.out]; rfl, _, by rw [HR.out]; exact H3.out.old ((Fr.same w3).drewN nq), (F3.out.drewN nq).mono fun i e => e.elim⟩
    · rw [hi]
      have hlt := (List.getElem?_eq_some_iff.1 hj).1
      obtain ⟨g, rfl, hgB, hgk, c0, c1, c2, c3⟩ := H3.out.at hj
      have hE : commitE room L k a = 0 := by unfold commitE; rw [if_pos HB.out, if_pos (.inl (by rw [hg]; rfl))]
      have hL : rcommitL room L k a = L.set j (k, a) := by unfold rcommitL; rw [if_pos hE]; unfold rput; rw [if_pos (by rw [hg]; rfl), hi]; rfl
      have HE := Lib.hid (hE0.out.trans hE)
      have HR := Lib.hid (hR0.out.trans hL)
      have hz := H3.out.fz (j := j * 4 + 3)
      have HJ := Lib.hid hj
      clear hE hL hi hg hj c0 c1 c2
      go_wp2_with fail
      go_ret
      exact ⟨by rw [HE.out]; rfl, _, by rw [HR.out]; exact H3.out.put HJ.out hgk, Fr.setCell (S := fun i => i = kb ∨ (Value.slice (some ⟨g, 0, none⟩) L.length cap).ownBlock = some i) (p := ⟨g, j * 4 + 3, none⟩) (F3.out.mono fun i e => e.elim) (.inl (.inr rfl)) _⟩
  · exact commit_bad k a B kb v room L w h hbad
end Go.Proofs.Ytdgdhegbcjimbaa
