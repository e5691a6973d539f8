/- CleanKeeps: the walk. -/
import Derived.Test.YtcnmggmfehdfoaaDoorK1
namespace Go.Proofs.YtcnmggmfehdfoaaDoor
open Go.RowKit Go.Fm Go.BigFrame
set_option linter.unusedVariables false
set_option linter.unusedSimpArgs false

theorem row_sorted {l : List Bat} (h : RowL l) : SortedL l := by
  refine ⟨h.apart, fun b hb => ?_⟩
  have ho := h.ok b hb
  refine ⟨?_, fun r hr => ?_, ho.span0⟩
  · have step : ∀ k j : Nat, ∀ r s, b.recs[j]? = some r → b.recs[j + k + 1]? = some s → r.at' < s.at' := by
      intro k
      induction k with
      | zero => intro j r s hr hs; exact (ho.recs (j + 1) s hs).rise r (by omega) (by simpa using hr)
      | succ k ih =>
        intro j r s hr hs
        have hlt := (List.getElem?_eq_some_iff.1 hs).1
        obtain ⟨t, ht⟩ := get_of_lt (show j + k + 1 < b.recs.length by omega)
        have h1 := ih j r t hr ht
        have h2 := (ho.recs (j + (k + 1) + 1) s hs).rise t (by omega) (by simpa [Nat.add_assoc] using ht)
        omega
    rw [List.pairwise_iff_getElem]
    intro i j hi hj hij
    refine step (j - i - 1) i _ _ (List.getElem?_eq_getElem hi) ?_
    rw [show i + (j - i - 1) + 1 = j by omega]
    exact List.getElem?_eq_getElem hj
  · obtain ⟨k, hk⟩ := List.getElem?_of_mem hr
    exact ⟨(ho.recs k r hk).ok.at0, (ho.recs k r hk).lt⟩
theorem row_good {l : List Bat} (h : RowL l) (hl : l.length ≤ 8) : GoodL l := by
  refine ⟨hl, fun b hb => ?_⟩
  have ho := h.ok b hb
  have hn := nums_of ho.base0 ho.base1 ho.span0 ho.span1 ho.who ho.len
  refine ⟨ho.len, fun r hr => ?_, ⟨ho.base0, by have := ho.base1; omega⟩, ⟨by have := ho.span0; omega, by have := ho.span1; omega⟩, hn.prod⟩
  obtain ⟨k, hk⟩ := List.getElem?_of_mem hr
  have hok := (ho.recs k r hk).ok
  exact ⟨by have := hok.key; omega, by have := hok.hs; omega, hok.at0, by have := hok.at1; omega⟩

/-- What is found at a place where a record stands is that record. -/
theorem find_one {l : List Bat} (h : SortedL l) {i k : Nat} {b : Bat} {r s : Rec} {x : Int} {c : Bool} (ha : At l i k b r) (hx : b.base + r.at' = x)
    (h1 : c = true → ∃ i k b, At l i k b s ∧ b.base + s.at' = x) (h2 : c = false → ∀ i k b r, At l i k b r → b.base + r.at' ≠ x) : c = true ∧ s = r := by
  cases c with
  | false => exact absurd hx (h2 rfl i k b r ha)
  | true =>
    obtain ⟨j, m, b', hs, hx'⟩ := h1 rfl
    exact ⟨rfl, (pos_inj h hs ha (by omega)).2.2.2⟩
/-- The last record of a key, if it is not Gone, is left. -/
theorem last_left {l : List Bat} {upto before : Int} {key : ByteArray} {i k : Nat} {b : Bat} {r : Rec} (ha : At l i k b r) (hk : keysTo l l.length r.key = some (i, k)) (hg : r.gone = false) :
    ∃ j m b', At (cleanTo (keysTo l l.length) (ownersTo l l.length) upto before l l.length) j m b' r ∧ b'.base = b.base := by
  have hgo : goesB (keysTo l l.length) before i k r = false := by simp [goesB, hk, hg]
  have hmem : r ∈ keptOf (keysTo l l.length) upto before i b := kept_has ha.2 (by rw [hgo]; simp) _ (List.getElem?_eq_some_iff.1 ha.2).1
  have hne : (keptOf (keysTo l l.length) upto before i b).isEmpty = false := by
    cases h : keptOf (keysTo l l.length) upto before i b with
    | nil => rw [h] at hmem; cases hmem
    | cons => rfl
  have hb := cleanTo_has (f := keysTo l l.length) (g := ownersTo l l.length) (upto := upto) (before := before) ha.1 (by rw [hne]; simp) l.length (List.getElem?_eq_some_iff.1 ha.1).1
  obtain ⟨j, hj⟩ := List.getElem?_of_mem hb
  obtain ⟨m, hm⟩ := List.getElem?_of_mem hmem
  exact ⟨j, m, _, ⟨hj, hm⟩, rfl⟩

set_option maxRecDepth 100000 in
set_option maxHeartbeats 16000000 in
theorem keeps_walk (K : Nat → Prop) (l : List Bat) (upto before : Int) (key : ByteArray) (v : Value) (w : World) (h : BatsR K w v l) (hp : ∀ b ∈ l, (Lit.int .i64 b.prod).wf = true) (hk0 : key.size ≤ maxLen) :
    Calls Tryd.prog 4 #[.agg #[v, .int .i64 upto, .int .i64 before, .string key]] w (TruePost w) := by
  obtain ⟨oa, cap, rfl, -⟩ := id h
  have hf0 := (Fr.same w).alloc (.cells #[.slice oa l.length cap, .int .i64 upto, .int .i64 before, .string key] 24)
  have c0 : (w.alloc (.cells #[.slice oa l.length cap, .int .i64 upto, .int .i64 before, .string key] 24)).cell? ⟨w.heap.size, 0, none⟩ = some (.slice oa l.length cap) := cell_alloc_new w _ 24 0
  have c1 : (w.alloc (.cells #[.slice oa l.length cap, .int .i64 upto, .int .i64 before, .string key] 24)).cell? ⟨w.heap.size, 1, none⟩ = some (.int .i64 upto) := cell_alloc_new w _ 24 1
  have c2 : (w.alloc (.cells #[.slice oa l.length cap, .int .i64 upto, .int .i64 before, .string key] 24)).cell? ⟨w.heap.size, 2, none⟩ = some (.int .i64 before) := cell_alloc_new w _ 24 2
  have c3 : (w.alloc (.cells #[.slice oa l.length cap, .int .i64 upto, .int .i64 before, .string key] 24)).cell? ⟨w.heap.size, 3, none⟩ = some (.string key) := cell_alloc_new w _ 24 3
  have H0 := Lib.hid h
  clear h hp
  go_enter Tryd.func4, Tryd.ntmps4
  go_wp2_with fail
  generalize (w.alloc (.cells #[.slice oa l.length cap, .int .i64 upto, .int .i64 before, .string key] 24)) = W0 at *
  go_quiet (fail)
  have F1 := Lib.hid (hf0.drewN nq)
  have HB1 := Lib.hid (H0.out.old F1.out)
  clear c0 c1 c2 c3 hf0
  generalize W0.drewN nq = W1 at *
  clear W0
  go_wp2_with fail
  refine (few_walk K l _ _ HB1.out).mono ?_
  rintro e w2 ⟨c, rfl, hc, hf2⟩
  have F2 := Lib.hid (F1.out.tr hf2)
  have HB2 := Lib.hid (HB1.out.old hf2)
  clear hf2
  cases c with
  | false =>
    clear hc
    go_wp2_with fail
    refine (live_walk _).mono ?_
    rintro e w3 ⟨rfl, hf3⟩
    have F3 := Lib.hid (F2.out.tr hf3)
    clear hf3
    go_wp2_with fail
    go_ret
    exact ⟨rfl, F3.out⟩
  | true =>
    have hfew := hc rfl
    have hl8 := hfew.len
    have HFEW := Lib.hid hfew
    clear hc hfew
    go_wp2_with fail
    refine (row_walk K l _ _ HB2.out hl8 (fun b hb => ⟨(HFEW.out.bats b hb).small.len, fun r hr => ((HFEW.out.bats b hb).small.recs r hr).1⟩)).mono ?_
    rintro e w3 ⟨va, all, rfl, hba, hrow, hal, hf3⟩
    have F3 := Lib.hid (F2.out.tr hf3)
    have HA3 := Lib.hid hba
    have SO := Lib.hid (row_sorted hrow)
    have G := Lib.hid (row_good hrow (by omega))
    clear hba hrow hf3 HFEW
    go_wp2_with fail
    refine (clean_walk _ all upto before _ _ HA3.out G.out).mono ?_
    rintro e w4 ⟨vc, rfl, hbc, hf4⟩
    have F4 := Lib.hid (F3.out.tr hf4)
    have HA4 := Lib.hid (HA3.out.old hf4)
    obtain ⟨c, hc⟩ : ∃ c, c = cleanTo (keysTo all all.length) (ownersTo all all.length) upto before all all.length := ⟨_, rfl⟩
    rw [← hc] at hbc
    have EC := Lib.hid hc
    have GC := Lib.hid (show GoodL c by rw [hc]; exact clean_good G.out)
    have SC := Lib.hid (show SortedL c by rw [hc]; exact clean_sorted SO.out)
    have AG := Lib.hid (clean_again SO.out hc)
    have HC4 := Lib.hid hbc
    have hc8 := GC.out.len
    clear hbc hc hf4
    go_wp2_with fail
    refine (latest_walk _ all key _ _ HA4.out G.out hk0).mono ?_
    rintro e w5 ⟨rfl, hf5⟩
    have F5 := Lib.hid (F4.out.tr hf5)
    have HA5 := Lib.hid (HA4.out.old hf5)
    have HC5 := Lib.hid (HC4.out.old hf5)
    have hsp := keysTo_spec all key all.length
    have hlat : latOf all all.length key = match keysTo all all.length key with | some p => (posOf all p.1 p.2, true) | none => (0, false) := rfl
    clear hf5
    cases hkk : keysTo all all.length key with
    | none =>
      rw [hkk] at hlat
      dsimp only at hlat
      rw [hlat]
      clear hlat hsp hkk
      go_wp2_with fail
      have F8 := F5
      have HA8 := HA5
      have HC8 := HC5
      generalize w5 = w8 at *
      obtain ⟨oc, ccap, rfl, hcc⟩ := id HC8.out
      have HCC := Lib.hid hcc
      clear hcc
      go_loopw [15, 16] (fun nv i wr => ∃ (k : Nat) (nn : Int), i = .int .i64 k ∧ nv = .int .i64 nn ∧ k ≤ c.length ∧ (∀ i' m b r, At c i' m b r → k ≤ i' → nn < b.base + r.at') ∧ Fr (fun _ => False) w8 wr) (fun _ i _ => c.length - (intOf i).toNat)
      case atStart => exact ⟨0, -1, rfl, rfl, Nat.zero_le _, fun i' m b r h1 _ => by have h2 := (SC.out.bats b (List.mem_of_getElem? h1.1)).range r (List.mem_of_getElem? h1.2); have h3 := (GC.out.bats b (List.mem_of_getElem? h1.1)).base; omega, Fr.same _⟩
      case round =>
        obtain ⟨k, nn, rfl, rfl, hk, hnn, hf⟩ := hrel
        have F := Lib.hid hf
        have NN := Lib.hid hnn
        clear hf hnn
        rcases Nat.lt_or_ge k c.length with hlt | hge
        · obtain ⟨b, hb⟩ := get_of_lt hlt
          obtain ⟨a, rv, rfl, -, hcb, hr⟩ := HCC.out k b hb
          obtain ⟨ra, rcap, rfl, hrr⟩ := hr
          have HRR := Lib.hid hrr
          have HX := Lib.hid hb
          have HCB := Lib.hid hcb
          have HG := Lib.hid (GC.out.bats b (List.mem_of_getElem? hb))
          have hlen50 := HG.out.len
          obtain ⟨hb0, hb1⟩ := HG.out.base
          clear hb hrr hcb
          go_wp2_with fail
          go_loopw [15, 17] (fun nv i wr => ∃ (q : Nat) (nn : Int), i = .int .i64 q ∧ nv = .int .i64 nn ∧ q ≤ b.recs.length ∧ (∀ i' m b' r, At c i' m b' r → (k < i' ∨ (k = i' ∧ q ≤ m)) → nn < b'.base + r.at') ∧ Fr (fun _ => False) w8 wr) (fun _ i _ => b.recs.length - (intOf i).toNat)
          case atStart => exact ⟨0, nn, rfl, rfl, Nat.zero_le _, fun i' m b' r h1 h2 => NN.out i' m b' r h1 (by omega), F.out⟩
          case round =>
            obtain ⟨q, nq2, rfl, rfl, hq, hnn, hf⟩ := hrel
            have FQ := Lib.hid hf
            have NQ := Lib.hid hnn
            have c0 := FQ.out.cel HCB.out.c0
            have c5 := FQ.out.cel HCB.out.c5
            clear hf hnn
            rcases Nat.lt_or_ge q b.recs.length with hq1 | hq1
            · obtain ⟨y, hy⟩ := get_of_lt hq1
              obtain ⟨a2, hv, rfl, -, hcy, -⟩ := HRR.out q y hy
              obtain ⟨-, -, ha0, ha1⟩ := HG.out.recs y (List.mem_of_getElem? hy)
              have AT := Lib.hid (show At c k q b y from ⟨HX.out, hy⟩)
              have HCY := Lib.hid hcy
              have e0 := FQ.out.cel hcy.c0
              have hlt2 := NQ.out k q b y AT.out (.inr ⟨rfl, Nat.le_refl _⟩)
              clear hy hcy
              go_wp2_with fail
              go_quiet (fail)
              have FN := Lib.hid (FQ.out.drewN nq)
              generalize wr.drewN nq = W9 at *
              clear c0 c5 e0
              have HA9 := Lib.hid (HA8.out.old FN.out)
              go_wp2_with fail
              refine (find_walk _ all _ _ _ HA9.out G.out).mono ?_
              rintro e w10 ⟨r3, hv3, c3, rfl, q1, q2, ⟨oh3, n3, cap3, rfl⟩, hf10⟩
              have hat2 := AT.out
              rw [EC.out] at hat2
              obtain ⟨i4, k4, b4, hat4, hbase4, -, -⟩ := clean_at hat2
              obtain ⟨rfl, rfl⟩ := find_one SO.out hat4 (by rw [← hbase4]) q1 q2
              have hf11 := hf10.alloc (.cells (recCells r3 (.slice oh3 n3 cap3)).toArray 39)
              have hA11 := heap_alloc_self w10 (.cells (recCells r3 (.slice oh3 n3 cap3)).toArray 39)
              unfold recCells at hf11 hA11
              have F11 := Lib.hid (FN.out.tr hf11)
              have A11 := Lib.hid hA11
              unfold recV
              clear q1 q2 hf10 hat2 hat4 hbase4 hf11 hA11
              go_wp2_with fail
              generalize (w10.alloc (.cells #[.int .i64 r3.at', .int .i64 r3.tm, .bool r3.bare, .string r3.key, .bool r3.gone, .string r3.val, .slice oh3 n3 cap3] 39)) = W11 at *
              have c5 := F11.out.cel HCB.out.c5
              have e3 := F11.out.cel HCY.out.c3
              have e5 := F11.out.cel HCY.out.c5
              have x3 : W11.cell? ⟨w10.heap.size, 3, none⟩ = some (.string r3.key) := cell_of A11.out 3
              have x5 : W11.cell? ⟨w10.heap.size, 5, none⟩ = some (.string r3.val) := cell_of A11.out 5
              have hnle : ¬ b.base + r3.at' ≤ nq2 := by omega
              go_quiet (fail)
              have FM := Lib.hid (F11.out.drewN nq)
              generalize W11.drewN nq = W12 at *
              clear c5 e3 e5 x3 x5
              go_wp2_with fail
              go_roundw
              case rel =>
                refine ⟨q + 1, _, by go_num, rfl, by omega, fun i' m b' r h1 h2 => ?_, FM.out⟩
                exact pos_lt SC.out AT.out h1 (by unfold Behind; omega)
              case measure => simp [intOf]; omega
            · go_wp2_with fail
              go_roundw
              case rel =>
                refine ⟨k + 1, nq2, by go_num, rfl, by omega, fun i' m b' r h1 h2 => NQ.out i' m b' r h1 (.inl (by omega)), FQ.out⟩
              case measure => simp [intOf]; omega
        · have HC9 := Lib.hid (HC8.out.old F.out)
          go_wp2_with fail
          refine (clean_walk _ c upto before _ _ HC9.out GC.out).mono ?_
          rintro e w10 ⟨vd, rfl, hbd, hf10⟩
          rw [AG.out] at hbd
          have HD := Lib.hid hbd
          have HC10 := Lib.hid (HC9.out.old hf10)
          have F10 := Lib.hid ((F8.out.tr F.out).tr hf10)
          clear hbd hf10
          go_wp2_with fail
          refine (same_good _ _ c _ _ _ HC10.out HD.out GC.out).mono ?_
          rintro e w11 ⟨rfl, hf11⟩
          have F11 := Lib.hid (F10.out.tr hf11)
          clear hf11
          go_wp2_with fail
          refine (live_walk _).mono ?_
          rintro e w12 ⟨rfl, hf12⟩
          have F12 := Lib.hid (F11.out.tr hf12)
          clear hf12
          go_wp2_with fail
          go_ret
          exact ⟨rfl, F12.out⟩
    | some p =>
      obtain ⟨i0, k0⟩ := p
      rw [hkk] at hlat hsp
      obtain ⟨⟨b0, r0, hb0, hr0, hbare0, hkey0⟩, -, -⟩ := hsp
      dsimp only at hb0 hr0
      have hat : At all i0 k0 b0 r0 := ⟨hb0, hr0⟩
      have hpos : posOf all i0 k0 = b0.base + r0.at' := by simp [posOf, hb0, hr0]
      dsimp only at hlat
      rw [hpos] at hlat
      rw [hlat]
      have ATK := Lib.hid hat
      have KEY := Lib.hid (show keysTo all all.length r0.key = some (i0, k0) by rw [hkey0]; exact hkk)
      clear hlat hkk hb0 hr0 hbare0 hkey0 hat hpos
      go_wp2_with fail
      refine (find_walk _ all _ _ _ HA5.out G.out).mono ?_
      rintro e w6 ⟨r1, hv1, c1, rfl, q1, q2, ⟨oh1, n1, cap1, rfl⟩, hf6⟩
      obtain ⟨rfl, rfl⟩ := find_one SO.out ATK.out rfl q1 q2
      have F6 := Lib.hid (F5.out.tr (hf6.alloc (.cells (recCells r1 (.slice oh1 n1 cap1)).toArray 39)))
      have HC6 := Lib.hid (HC5.out.old (hf6.alloc (.cells (recCells r1 (.slice oh1 n1 cap1)).toArray 39)))
      have HA6 := Lib.hid (HA5.out.old (hf6.alloc (.cells (recCells r1 (.slice oh1 n1 cap1)).toArray 39)))
      have A6 := Lib.hid (heap_alloc_self w6 (.cells (recCells r1 (.slice oh1 n1 cap1)).toArray 39))
      unfold recCells at F6 HC6 HA6 A6
      clear q1 q2 hf6
      unfold recV
      go_wp2_with fail
      generalize (w6.alloc (.cells #[.int .i64 r1.at', .int .i64 r1.tm, .bool r1.bare, .string r1.key, .bool r1.gone, .string r1.val, .slice oh1 n1 cap1] 39)) = W6 at *
      refine (find_walk _ c _ _ _ HC6.out GC.out).mono ?_
      rintro e w7 ⟨s1, hv2, c2, rfl, q1, q2, ⟨oh2, n2, cap2, rfl⟩, hf7⟩
      have Q1 := Lib.hid q1
      have Q2 := Lib.hid q2
      have A7 := Lib.hid ((hf7.block w6.heap.size (lt_of_heap A6.out) fun h => h).trans A6.out)
      have hf8 := hf7.alloc (.cells (recCells s1 (.slice oh2 n2 cap2)).toArray 39)
      have A8 := Lib.hid ((((Fr.same w7).alloc (.cells (recCells s1 (.slice oh2 n2 cap2)).toArray 39)).block w6.heap.size (lt_of_heap A7.out) fun h => h).trans A7.out)
      have F8 := Lib.hid (F6.out.tr hf8)
      have HA8 := Lib.hid (HA6.out.old hf8)
      have HC8 := Lib.hid (HC6.out.old hf8)
      have B8 := Lib.hid (heap_alloc_self w7 (.cells (recCells s1 (.slice oh2 n2 cap2)).toArray 39))
      clear q1 q2 hf7 hf8
      unfold recV
      cases hgn : r1.gone with
      | true =>
        rw [hgn] at A8
        unfold recCells at A8 F8 HA8 HC8 B8
        have dd := fun j => cell_of A8.out j
        clear Q1 Q2 A6 A7
        go_wp2_with fail
        generalize (w7.alloc (.cells #[.int .i64 s1.at', .int .i64 s1.tm, .bool s1.bare, .string s1.key, .bool s1.gone, .string s1.val, .slice oh2 n2 cap2] 39)) = w8 at *
        clear dd A8 B8
        obtain ⟨oc, ccap, rfl, hcc⟩ := id HC8.out
        have HCC := Lib.hid hcc
        clear hcc
        go_loopw [15, 16] (fun nv i wr => ∃ (k : Nat) (nn : Int), i = .int .i64 k ∧ nv = .int .i64 nn ∧ k ≤ c.length ∧ (∀ i' m b r, At c i' m b r → k ≤ i' → nn < b.base + r.at') ∧ Fr (fun _ => False) w8 wr) (fun _ i _ => c.length - (intOf i).toNat)
        case atStart => exact ⟨0, -1, rfl, rfl, Nat.zero_le _, fun i' m b r h1 _ => by have h2 := (SC.out.bats b (List.mem_of_getElem? h1.1)).range r (List.mem_of_getElem? h1.2); have h3 := (GC.out.bats b (List.mem_of_getElem? h1.1)).base; omega, Fr.same _⟩
        case round =>
          obtain ⟨k, nn, rfl, rfl, hk, hnn, hf⟩ := hrel
          have F := Lib.hid hf
          have NN := Lib.hid hnn
          clear hf hnn
          rcases Nat.lt_or_ge k c.length with hlt | hge
          · obtain ⟨b, hb⟩ := get_of_lt hlt
            obtain ⟨a, rv, rfl, -, hcb, hr⟩ := HCC.out k b hb
            obtain ⟨ra, rcap, rfl, hrr⟩ := hr
            have HRR := Lib.hid hrr
            have HX := Lib.hid hb
            have HCB := Lib.hid hcb
            have HG := Lib.hid (GC.out.bats b (List.mem_of_getElem? hb))
            have hlen50 := HG.out.len
            obtain ⟨hb0, hb1⟩ := HG.out.base
            clear hb hrr hcb
            go_wp2_with fail
            go_loopw [15, 17] (fun nv i wr => ∃ (q : Nat) (nn : Int), i = .int .i64 q ∧ nv = .int .i64 nn ∧ q ≤ b.recs.length ∧ (∀ i' m b' r, At c i' m b' r → (k < i' ∨ (k = i' ∧ q ≤ m)) → nn < b'.base + r.at') ∧ Fr (fun _ => False) w8 wr) (fun _ i _ => b.recs.length - (intOf i).toNat)
            case atStart => exact ⟨0, nn, rfl, rfl, Nat.zero_le _, fun i' m b' r h1 h2 => NN.out i' m b' r h1 (by omega), F.out⟩
            case round =>
              obtain ⟨q, nq2, rfl, rfl, hq, hnn, hf⟩ := hrel
              have FQ := Lib.hid hf
              have NQ := Lib.hid hnn
              have c0 := FQ.out.cel HCB.out.c0
              have c5 := FQ.out.cel HCB.out.c5
              clear hf hnn
              rcases Nat.lt_or_ge q b.recs.length with hq1 | hq1
              · obtain ⟨y, hy⟩ := get_of_lt hq1
                obtain ⟨a2, hv, rfl, -, hcy, -⟩ := HRR.out q y hy
                obtain ⟨-, -, ha0, ha1⟩ := HG.out.recs y (List.mem_of_getElem? hy)
                have AT := Lib.hid (show At c k q b y from ⟨HX.out, hy⟩)
                have HCY := Lib.hid hcy
                have e0 := FQ.out.cel hcy.c0
                have hlt2 := NQ.out k q b y AT.out (.inr ⟨rfl, Nat.le_refl _⟩)
                clear hy hcy
                go_wp2_with fail
                go_quiet (fail)
                have FN := Lib.hid (FQ.out.drewN nq)
                generalize wr.drewN nq = W9 at *
                clear c0 c5 e0
                have HA9 := Lib.hid (HA8.out.old FN.out)
                go_wp2_with fail
                refine (find_walk _ all _ _ _ HA9.out G.out).mono ?_
                rintro e w10 ⟨r3, hv3, c3, rfl, q1, q2, ⟨oh3, n3, cap3, rfl⟩, hf10⟩
                have hat2 := AT.out
                rw [EC.out] at hat2
                obtain ⟨i4, k4, b4, hat4, hbase4, -, -⟩ := clean_at hat2
                obtain ⟨rfl, rfl⟩ := find_one SO.out hat4 (by rw [← hbase4]) q1 q2
                have hf11 := hf10.alloc (.cells (recCells r3 (.slice oh3 n3 cap3)).toArray 39)
                have hA11 := heap_alloc_self w10 (.cells (recCells r3 (.slice oh3 n3 cap3)).toArray 39)
                unfold recCells at hf11 hA11
                have F11 := Lib.hid (FN.out.tr hf11)
                have A11 := Lib.hid hA11
                unfold recV
                clear q1 q2 hf10 hat2 hat4 hbase4 hf11 hA11
                go_wp2_with fail
                generalize (w10.alloc (.cells #[.int .i64 r3.at', .int .i64 r3.tm, .bool r3.bare, .string r3.key, .bool r3.gone, .string r3.val, .slice oh3 n3 cap3] 39)) = W11 at *
                have c5 := F11.out.cel HCB.out.c5
                have e3 := F11.out.cel HCY.out.c3
                have e5 := F11.out.cel HCY.out.c5
                have x3 : W11.cell? ⟨w10.heap.size, 3, none⟩ = some (.string r3.key) := cell_of A11.out 3
                have x5 : W11.cell? ⟨w10.heap.size, 5, none⟩ = some (.string r3.val) := cell_of A11.out 5
                have hnle : ¬ b.base + r3.at' ≤ nq2 := by omega
                go_quiet (fail)
                have FM := Lib.hid (F11.out.drewN nq)
                generalize W11.drewN nq = W12 at *
                clear c5 e3 e5 x3 x5
                go_wp2_with fail
                go_roundw
                case rel =>
                  refine ⟨q + 1, _, by go_num, rfl, by omega, fun i' m b' r h1 h2 => ?_, FM.out⟩
                  exact pos_lt SC.out AT.out h1 (by unfold Behind; omega)
                case measure => simp [intOf]; omega
              · go_wp2_with fail
                go_roundw
                case rel =>
                  refine ⟨k + 1, nq2, by go_num, rfl, by omega, fun i' m b' r h1 h2 => NQ.out i' m b' r h1 (.inl (by omega)), FQ.out⟩
                case measure => simp [intOf]; omega
          · have HC9 := Lib.hid (HC8.out.old F.out)
            go_wp2_with fail
            refine (clean_walk _ c upto before _ _ HC9.out GC.out).mono ?_
            rintro e w10 ⟨vd, rfl, hbd, hf10⟩
            rw [AG.out] at hbd
            have HD := Lib.hid hbd
            have HC10 := Lib.hid (HC9.out.old hf10)
            have F10 := Lib.hid ((F8.out.tr F.out).tr hf10)
            clear hbd hf10
            go_wp2_with fail
            refine (same_good _ _ c _ _ _ HC10.out HD.out GC.out).mono ?_
            rintro e w11 ⟨rfl, hf11⟩
            have F11 := Lib.hid (F10.out.tr hf11)
            clear hf11
            go_wp2_with fail
            refine (live_walk _).mono ?_
            rintro e w12 ⟨rfl, hf12⟩
            have F12 := Lib.hid (F11.out.tr hf12)
            clear hf12
            go_wp2_with fail
            go_ret
            exact ⟨rfl, F12.out⟩
      | false =>
        obtain ⟨j, m, b', hj, hbb⟩ := last_left (upto := upto) (before := before) (key := key) ATK.out KEY.out hgn
        rw [← EC.out] at hj
        obtain ⟨rfl, rfl⟩ := find_one SC.out hj (by rw [hbb]) Q1.out Q2.out
        unfold recCells at A8 F8 HA8 HC8 B8
        rw [hgn] at A8 F8 HA8 HC8 B8
        have dd := fun j => cell_of A8.out j
        have db := fun j => cell_of B8.out j
        clear Q1 Q2 A6 A7 hj hbb
        go_wp2_with fail
        generalize (w7.alloc (.cells #[.int .i64 s1.at', .int .i64 s1.tm, .bool s1.bare, .string s1.key, .bool false, .string s1.val, .slice oh2 n2 cap2] 39)) = w8 at *
        clear dd db A8 B8
        obtain ⟨oc, ccap, rfl, hcc⟩ := id HC8.out
        have HCC := Lib.hid hcc
        clear hcc
        go_loopw [15, 16] (fun nv i wr => ∃ (k : Nat) (nn : Int), i = .int .i64 k ∧ nv = .int .i64 nn ∧ k ≤ c.length ∧ (∀ i' m b r, At c i' m b r → k ≤ i' → nn < b.base + r.at') ∧ Fr (fun _ => False) w8 wr) (fun _ i _ => c.length - (intOf i).toNat)
        case atStart => exact ⟨0, -1, rfl, rfl, Nat.zero_le _, fun i' m b r h1 _ => by have h2 := (SC.out.bats b (List.mem_of_getElem? h1.1)).range r (List.mem_of_getElem? h1.2); have h3 := (GC.out.bats b (List.mem_of_getElem? h1.1)).base; omega, Fr.same _⟩
        case round =>
          obtain ⟨k, nn, rfl, rfl, hk, hnn, hf⟩ := hrel
          have F := Lib.hid hf
          have NN := Lib.hid hnn
          clear hf hnn
          rcases Nat.lt_or_ge k c.length with hlt | hge
          · obtain ⟨b, hb⟩ := get_of_lt hlt
            obtain ⟨a, rv, rfl, -, hcb, hr⟩ := HCC.out k b hb
            obtain ⟨ra, rcap, rfl, hrr⟩ := hr
            have HRR := Lib.hid hrr
            have HX := Lib.hid hb
            have HCB := Lib.hid hcb
            have HG := Lib.hid (GC.out.bats b (List.mem_of_getElem? hb))
            have hlen50 := HG.out.len
            obtain ⟨hb0, hb1⟩ := HG.out.base
            clear hb hrr hcb
            go_wp2_with fail
            go_loopw [15, 17] (fun nv i wr => ∃ (q : Nat) (nn : Int), i = .int .i64 q ∧ nv = .int .i64 nn ∧ q ≤ b.recs.length ∧ (∀ i' m b' r, At c i' m b' r → (k < i' ∨ (k = i' ∧ q ≤ m)) → nn < b'.base + r.at') ∧ Fr (fun _ => False) w8 wr) (fun _ i _ => b.recs.length - (intOf i).toNat)
            case atStart => exact ⟨0, nn, rfl, rfl, Nat.zero_le _, fun i' m b' r h1 h2 => NN.out i' m b' r h1 (by omega), F.out⟩
            case round =>
              obtain ⟨q, nq2, rfl, rfl, hq, hnn, hf⟩ := hrel
              have FQ := Lib.hid hf
              have NQ := Lib.hid hnn
              have c0 := FQ.out.cel HCB.out.c0
              have c5 := FQ.out.cel HCB.out.c5
              clear hf hnn
              rcases Nat.lt_or_ge q b.recs.length with hq1 | hq1
              · obtain ⟨y, hy⟩ := get_of_lt hq1
                obtain ⟨a2, hv, rfl, -, hcy, -⟩ := HRR.out q y hy
                obtain ⟨-, -, ha0, ha1⟩ := HG.out.recs y (List.mem_of_getElem? hy)
                have AT := Lib.hid (show At c k q b y from ⟨HX.out, hy⟩)
                have HCY := Lib.hid hcy
                have e0 := FQ.out.cel hcy.c0
                have hlt2 := NQ.out k q b y AT.out (.inr ⟨rfl, Nat.le_refl _⟩)
                clear hy hcy
                go_wp2_with fail
                go_quiet (fail)
                have FN := Lib.hid (FQ.out.drewN nq)
                generalize wr.drewN nq = W9 at *
                clear c0 c5 e0
                have HA9 := Lib.hid (HA8.out.old FN.out)
                go_wp2_with fail
                refine (find_walk _ all _ _ _ HA9.out G.out).mono ?_
                rintro e w10 ⟨r3, hv3, c3, rfl, q1, q2, ⟨oh3, n3, cap3, rfl⟩, hf10⟩
                have hat2 := AT.out
                rw [EC.out] at hat2
                obtain ⟨i4, k4, b4, hat4, hbase4, -, -⟩ := clean_at hat2
                obtain ⟨rfl, rfl⟩ := find_one SO.out hat4 (by rw [← hbase4]) q1 q2
                have hf11 := hf10.alloc (.cells (recCells r3 (.slice oh3 n3 cap3)).toArray 39)
                have hA11 := heap_alloc_self w10 (.cells (recCells r3 (.slice oh3 n3 cap3)).toArray 39)
                unfold recCells at hf11 hA11
                have F11 := Lib.hid (FN.out.tr hf11)
                have A11 := Lib.hid hA11
                unfold recV
                clear q1 q2 hf10 hat2 hat4 hbase4 hf11 hA11
                go_wp2_with fail
                generalize (w10.alloc (.cells #[.int .i64 r3.at', .int .i64 r3.tm, .bool r3.bare, .string r3.key, .bool r3.gone, .string r3.val, .slice oh3 n3 cap3] 39)) = W11 at *
                have c5 := F11.out.cel HCB.out.c5
                have e3 := F11.out.cel HCY.out.c3
                have e5 := F11.out.cel HCY.out.c5
                have x3 : W11.cell? ⟨w10.heap.size, 3, none⟩ = some (.string r3.key) := cell_of A11.out 3
                have x5 : W11.cell? ⟨w10.heap.size, 5, none⟩ = some (.string r3.val) := cell_of A11.out 5
                have hnle : ¬ b.base + r3.at' ≤ nq2 := by omega
                go_quiet (fail)
                have FM := Lib.hid (F11.out.drewN nq)
                generalize W11.drewN nq = W12 at *
                clear c5 e3 e5 x3 x5
                go_wp2_with fail
                go_roundw
                case rel =>
                  refine ⟨q + 1, _, by go_num, rfl, by omega, fun i' m b' r h1 h2 => ?_, FM.out⟩
                  exact pos_lt SC.out AT.out h1 (by unfold Behind; omega)
                case measure => simp [intOf]; omega
              · go_wp2_with fail
                go_roundw
                case rel =>
                  refine ⟨k + 1, nq2, by go_num, rfl, by omega, fun i' m b' r h1 h2 => NQ.out i' m b' r h1 (.inl (by omega)), FQ.out⟩
                case measure => simp [intOf]; omega
          · have HC9 := Lib.hid (HC8.out.old F.out)
            go_wp2_with fail
            refine (clean_walk _ c upto before _ _ HC9.out GC.out).mono ?_
            rintro e w10 ⟨vd, rfl, hbd, hf10⟩
            rw [AG.out] at hbd
            have HD := Lib.hid hbd
            have HC10 := Lib.hid (HC9.out.old hf10)
            have F10 := Lib.hid ((F8.out.tr F.out).tr hf10)
            clear hbd hf10
            go_wp2_with fail
            refine (same_good _ _ c _ _ _ HC10.out HD.out GC.out).mono ?_
            rintro e w11 ⟨rfl, hf11⟩
            have F11 := Lib.hid (F10.out.tr hf11)
            clear hf11
            go_wp2_with fail
            refine (live_walk _).mono ?_
            rintro e w12 ⟨rfl, hf12⟩
            have F12 := Lib.hid (F11.out.tr hf12)
            clear hf12
            go_wp2_with fail
            go_ret
            exact ⟨rfl, F12.out⟩
end Go.Proofs.YtcnmggmfehdfoaaDoor
