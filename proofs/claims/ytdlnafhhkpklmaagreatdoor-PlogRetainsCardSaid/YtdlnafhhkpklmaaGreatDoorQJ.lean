/- The example log: laws and the walk of live. -/
import Derived.Test.YtdlnafhhkpklmaaGreatDoorQI
namespace Go.Proofs.YtdlnafhhkpklmaaGreatDoor
open Go.RowKit Go.Fm Go.BigFrame Go.Shelf Go.Maps
set_option linter.unusedVariables false
set_option linter.unusedSimpArgs false
set_option maxRecDepth 100000

section
def kS : ByteArray := ⟨#[107]⟩
def vS : ByteArray := ⟨#[118]⟩
def pS : ByteArray := ⟨#[112]⟩
def simR : Rec := ⟨0, 0, false, kS, false, vS, []⟩
def simB (n : Int) : Bat := ⟨n, 1, -1, -1, -1, [simR]⟩
theorem simR_ok : RecOK simR := by constructor <;> simp [simR, kS, vS, ByteArray.size]
theorem putS_sz {n : Int} (h : zig n < 128) : (putS n).size = 1 := by rw [putS_len, putL_small h]; rfl
theorem simB_body {n : Int} (h0 : 0 ≤ n) (h1 : n < 64) : (bodyS (simB n)).size = 14 := by
  have e : bodyS (simB n) = putS n ++ putS 1 ++ putS (-1) ++ putS (-1) ++ putS (-1) ++ putS 1 ++ (putS 0 ++ putS 0 ++ putS 0 ++ (putS 1 ++ kS) ++ (putS 1 ++ vS) ++ putS 0) := rfl
  rw [e]
  simp only [ByteArray.size_append]
  rw [putS_sz (n := n) (by unfold zig; split <;> omega), putS_sz (n := 1) (by decide), putS_sz (n := -1) (by decide), putS_sz (n := 0) (by decide)]
  rfl
theorem simB_sz {n : Int} (h0 : 0 ≤ n) (h1 : n < 64) : bsz (simB n) = 22 := by
  unfold bsz
  rw [batS_size, simB_body h0 h1]
theorem simB_ok {n : Int} (h0 : 0 ≤ n) (h1 : n < 64) : BatOK (simB n) := by
  have hb := simB_body h0 h1
  refine { base0 := h0, base1 := by show n ≤ _; omega, span0 := by show (1 : Int) ≤ 1; omega, span1 := by show (1 : Int) ≤ 50; omega, who := .inl ⟨rfl, rfl, rfl⟩, len := by simp [simB], recs := fun k r hk => ?_, body := by omega }
  cases k with
  | zero =>
    simp [simB] at hk
    subst hk
    exact ⟨simR_ok, by show (0 : Int) < 1; omega, by show (-1 : Int) < 0; omega⟩
  | succ k => simp [simB] at hk
def SimPost (w : World) (e : Ending) (w' : World) : Prop := ∃ rv, e = .returned (batV (simB 0) rv) ∧ RecsR (fun b => w.heap.size ≤ b) w' rv (simB 0).recs ∧ Fr (fun _ => False) w w'
theorem simple_walk (w : World) : Calls Tryz.prog 37 #[] w (SimPost w) := by
  go_enter Tryz.func37, Tryz.ntmps37
  go_wp2_with fail
  refine bodyPost_ret (v := batV (simB 0) (.slice (some ⟨w.heap.size + 1, 0, none⟩) 1 1)) (by simp [results, Tryz.f37, go_sem, batV, simB]) rfl ⟨_, rfl, ?_, ((Fr.same w).alloc _).alloc _⟩
  have hs : (w.alloc (.cells #[.int .i64 0, .int .i64 1, .int .i64 (-1), .int .i64 (-1), .int .i64 (-1), .slice (some ⟨w.heap.size + 1, 0, none⟩) 1 1] 36)).heap.size = w.heap.size + 1 := by simp
  generalize (w.alloc (.cells #[.int .i64 0, .int .i64 1, .int .i64 (-1), .int .i64 (-1), .int .i64 (-1), .slice (some ⟨w.heap.size + 1, 0, none⟩) 1 1] 36)) = W at hs ⊢
  refine ⟨_, _, rfl, fun k r hk => ?_⟩
  cases k with
  | zero =>
    simp [simB] at hk
    subst hk
    have hc := cell_alloc_new W #[.int .i64 0, .int .i64 0, .bool false, .string kS, .bool false, .string vS, .slice none 0 0] 79
    rw [hs] at hc
    exact ⟨⟨w.heap.size + 1, 0, none⟩, .slice none 0 0, rfl, Nat.le_succ _, ⟨hc 0, hc 1, hc 2, hc 3, hc 4, hc 5, hc 6⟩, hds_nil _ _⟩
  | succ k => simp [simB] at hk
def exS : Nat → List Seg
  | 0 => []
  | k + 1 => appS 50 10 0 (exS k) (simB k)
theorem exS_end : ∀ k, ssEnd 0 (exS k) = k
  | 0 => rfl
  | k + 1 => by
    have h : ∀ (ss : List Seg) (b : Bat), ssEnd 0 (appS 50 10 0 ss b) = b.base + b.span := fun ss b => by
      unfold appS
      cases e : ss.getLast? with
      | none => rfl
      | some s =>
        dsimp only
        split
        · unfold ssEnd; rw [List.getLast?_concat]; rfl
        · unfold ssEnd
          rw [List.getLast?_concat]
          exact Seg.end_push s b
    rw [exS, h]
    rfl
theorem sum1 (a : Int) : sumB [simB a] = bsz (simB a) := by simp [sumB]
theorem exS7 : exS 7 = [⟨0, 10, [simB 0, simB 1, simB 2]⟩, ⟨3, 10, [simB 3, simB 4, simB 5]⟩, ⟨6, 10, [simB 6]⟩] := by
  have s0 := simB_sz (n := 0) (by omega) (by omega)
  have s1 := simB_sz (n := 1) (by omega) (by omega)
  have s2 := simB_sz (n := 2) (by omega) (by omega)
  have s3 := simB_sz (n := 3) (by omega) (by omega)
  have s4 := simB_sz (n := 4) (by omega) (by omega)
  have s5 := simB_sz (n := 5) (by omega) (by omega)
  have e1 : exS 1 = [⟨0, 10, [simB 0]⟩] := rfl
  have e2 : exS 2 = [⟨0, 10, [simB 0, simB 1]⟩] := by rw [exS, e1]; simp [appS, sumB, s0, Seg.push]
  have e3 : exS 3 = [⟨0, 10, [simB 0, simB 1, simB 2]⟩] := by rw [exS, e2]; simp [appS, sumB, s0, s1, Seg.push]
  have h3 : 50 ≤ sumB [simB 0, simB 1, simB 2] := by simp [sumB, s0, s1, s2]
  have h6 : 50 ≤ sumB [simB 3, simB 4, simB 5] := by simp [sumB, s3, s4, s5]
  have e4 : exS 4 = [⟨0, 10, [simB 0, simB 1, simB 2]⟩, ⟨3, 10, [simB 3]⟩] := by
    rw [exS, e3]
    unfold appS
    simp only [List.getLast?_singleton]
    rw [if_pos h3]
    rfl
  have e5 : exS 5 = [⟨0, 10, [simB 0, simB 1, simB 2]⟩, ⟨3, 10, [simB 3, simB 4]⟩] := by rw [exS, e4]; simp [appS, sumB, s3, Seg.push]
  have e6 : exS 6 = [⟨0, 10, [simB 0, simB 1, simB 2]⟩, ⟨3, 10, [simB 3, simB 4, simB 5]⟩] := by rw [exS, e5]; simp [appS, sumB, s3, s4, Seg.push]
  rw [exS, e6]
  unfold appS
  simp only [List.getLast?_cons_cons, List.getLast?_singleton]
  rw [if_pos h6]
  rfl
theorem ex_ret {b : Int} {s : List Seg} (h : Ret 50 0 (exS 7) b s) : b = 6 ∧ s = [⟨6, 10, [simB 6]⟩] := by
  have s0 := simB_sz (n := 0) (by omega) (by omega)
  have s1 := simB_sz (n := 1) (by omega) (by omega)
  have s2 := simB_sz (n := 2) (by omega) (by omega)
  have s3 := simB_sz (n := 3) (by omega) (by omega)
  have s4 := simB_sz (n := 4) (by omega) (by omega)
  have s5 := simB_sz (n := 5) (by omega) (by omega)
  have s6 := simB_sz (n := 6) (by omega) (by omega)
  rw [exS7] at h
  cases h with
  | stop h => simp [sizeS, sumB, s0, s1, s2, s3, s4, s5, s6] at h
  | step h hr =>
    have e1 : List.drop (trimN (max ((3 : Nat) : Int) 0) [⟨0, 10, [simB 0, simB 1, simB 2]⟩, ⟨3, 10, [simB 3, simB 4, simB 5]⟩, ⟨6, 10, [simB 6]⟩]) [(⟨0, 10, [simB 0, simB 1, simB 2]⟩ : Seg), ⟨3, 10, [simB 3, simB 4, simB 5]⟩, ⟨6, 10, [simB 6]⟩] = [⟨3, 10, [simB 3, simB 4, simB 5]⟩, ⟨6, 10, [simB 6]⟩] := by
      rw [show max ((3 : Nat) : Int) 0 = 3 from by decide, trimN, if_pos (show (⟨0, 10, [simB 0, simB 1, simB 2]⟩ : Seg).end' ≤ 3 from (by show (2 : Int) + 1 ≤ 3; omega)), trimN, if_neg (show ¬ (⟨3, 10, [simB 3, simB 4, simB 5]⟩ : Seg).end' ≤ 3 from (by show ¬ (5 : Int) + 1 ≤ 3; omega))]
      rfl
    rw [e1] at hr
    cases hr with
    | stop h => simp [sizeS, sumB, s3, s4, s5, s6] at h
    | step h hr =>
      have e2 : List.drop (trimN (max ((6 : Nat) : Int) (max ((3 : Nat) : Int) 0)) [⟨3, 10, [simB 3, simB 4, simB 5]⟩, ⟨6, 10, [simB 6]⟩]) [(⟨3, 10, [simB 3, simB 4, simB 5]⟩ : Seg), ⟨6, 10, [simB 6]⟩] = [⟨6, 10, [simB 6]⟩] := by
        rw [show max ((6 : Nat) : Int) (max ((3 : Nat) : Int) 0) = 6 from by decide, trimN, if_pos (show (⟨3, 10, [simB 3, simB 4, simB 5]⟩ : Seg).end' ≤ 6 from (by show (5 : Int) + 1 ≤ 6; omega)), trimN]
        · rfl
        · intro a b r e; cases e
      rw [e2] at hr
      cases hr with
      | stop h => exact ⟨by show max (((6 : Nat) : Int)) (max ((3 : Nat) : Int) 0) = 6; omega, rfl⟩
end
section
variable {B : Nat} {w w' w1 w2 : World} {lb db mb : Nat} {p : ByteArray} {lim ev : Nat} {beg : Int} {es : List PE} {own : Bool} {L L' : List Row} {S S' : Nat → Prop} {room used fuse : Int} {F F' : ByteArray → ByteArray × Nat} {n : Nat}
theorem popen_none (w : World) (db : Nat) : Calls Tryz.prog 11 #[.pointer (some ⟨db, 0, none⟩), cfgV ⟨#[]⟩ 0 0] w fun e w' => e = .returned (.tuple #[.pointer none, .int .i64 1]) ∧ Fr (fun _ => False) w w' := by
  have hmy := may_none (w.alloc (.cells #[.string ⟨#[]⟩, .int .i64 0, .int .i64 0] 32))
  unfold cfgV at hmy ⊢
  have HMY := Lib.hid hmy
  clear hmy
  go_enter Tryz.func11, Tryz.ntmps11
  go_wp2_with fail
  refine HMY.out.mono ?_
  rintro e w1 ⟨rfl, hf⟩
  have F1 := Lib.hid (((Fr.same w).alloc (.cells #[.string ⟨#[]⟩, .int .i64 0, .int .i64 0] 32)).tr hf)
  clear hf
  go_wp2_with fail
  go_ret2
  exact ⟨rfl, F1.out⟩
theorem LogD.none (h : LogD B w lb db mb p lim ev beg es own L S room used fuse F n) (hL : ∀ i, DkS db mb L i → i = db ∨ i = mb) : L = [] := by
  cases L with
  | nil => rfl
  | cons r L =>
    have h1 := h.dk.ne_file (r := r) List.mem_cons_self
    rcases hL r.2 (.inr (.inr ⟨r, List.mem_cons_self, rfl⟩)) with h2 | h2
    · exact absurd h2 h1.1
    · exact absurd h2 h1.2
/-- A log that is opened on a disk without files. -/
def NewLog (B : Nat) (w : World) (db mb : Nat) (p : ByteArray) (lim ev : Nat) (room : Int) (e : Ending) (w' : World) : Prop :=
  ∃ (lb : Nat) (S' : Nat → Prop) (F' : ByteArray → ByteArray × Nat), e = .returned (.tuple #[.pointer (some ⟨lb, 0, none⟩), .int .i64 0]) ∧ LogD B w' lb db mb p lim ev 0 [] true [] S' room 0 (-1) F' 0 ∧ (∀ i, S' i → w.heap.size ≤ i) ∧ Fr (fun i => i = db ∨ i = mb) w w'
theorem popen_new (h : DkN w db mb room 0 [] F) (hrm : room ≤ 4194304) (hB1 : 1 ≤ B) (hdb : B ≤ db) (hmb : B ≤ mb) (p1 : 1 ≤ p.size) (p2 : p.size ≤ 20) (l1 : 50 ≤ lim) (l2 : lim ≤ 1000000) (e1 : 1 ≤ ev) (e2 : ev ≤ 1000000) (hst : StepsOK w) :
    Calls Tryz.prog 11 #[.pointer (some ⟨db, 0, none⟩), cfgV p lim ev] w (NewLog B w db mb p lim ev room) := by
  have hD : ∀ i, DkS db mb [] i → i = db ∨ i = mb := fun i hi => hi.imp id fun h => h.elim id fun ⟨r, hr, _⟩ => (by cases hr)
  refine (popen_walk (B := B) (ts := []) (beg := 0) (n := 0) ⟨h, hrm, ⟨fun nm h1 => (by cases h1), fun t ht => (by cases ht), fun t ht => (by cases ht), .nil, fun t ht => (by cases ht), fun t ht => (by cases ht), fun t ht => (by cases ht), fun t ht => (by cases ht)⟩, .inl ⟨rfl, rfl⟩, Int.le_refl _, by omega, Int.le_refl _, fun i hi => by
    rcases hD i hi with rfl | rfl <;> assumption, hB1, Nat.le_refl _, Nat.le_refl _, Nat.le_refl _, by omega, p1, p2, l1, l2, e1, e2, hst⟩).mono ?_
  rintro e w1 ⟨lb, j, es, own', L', S', used', F', rfl, hL, hsg, hj, how, hls, hot, hS, hDk, hf⟩
  obtain rfl : es = [] := by
    unfold segsOf at hsg
    simpa using hsg
  obtain rfl : j = 0 := hj
  obtain rfl := how rfl
  obtain rfl := hL.none fun i hi => hD i (hDk i hi)
  obtain rfl : used' = 0 := hL.us
  exact ⟨lb, S', F', rfl, hL, hS, hf.mono fun i hi => .inl (hD i hi)⟩
theorem ssEnd_segs (beg : Int) (es : List PE) : lgEnd beg es = ssEnd beg (segsOf es) := (ssEnd_map beg es).symm
/-- One of the example's batches more. -/
theorem sim_append {k : Nat} (D : LogD B w lb db mb p 50 10 0 es true L S 10000 used (-1) F n) (hsg : segsOf es = exS k) (hu : used = 22 * k) (hk : k < 60) (hn : n < 600) (hst : StepsOK w) (K : Nat → Prop) (hK : ∀ k, K k → ¬ S k ∧ ¬ DkS db mb L k) (v : Value) (hr : RecsR K w v (simB 0).recs) :
    Calls Tryz.prog 13 #[.pointer (some ⟨lb, 0, none⟩), batV (simB 0) v, .bool false] w fun e w' => e = .returned (.tuple #[.int .i64 k, .int .i64 0]) ∧ ∃ es' L' S' F', LogD B w' lb db mb p 50 10 0 es' true L' S' 10000 (22 * ((k + 1 : Nat) : Int)) (-1) F' (n + 2) ∧ segsOf es' = exS (k + 1) ∧ Foot db mb w w' S L S' L' ∧ Fr (fun i => S i ∨ DkS db mb L i) w w' := by
  have hE : lgEnd 0 es = k := by rw [ssEnd_segs, hsg, exS_end]
  have hla := lapp D (by omega) hst K hK (simB 0) v hr false
  rw [hE] at hla
  refine hla.mono ?_
  rintro e w1 ⟨c, a, es', L', S', us', fu', F', rfl, hD, hot, hsf, hfo, hfr, ha, -, hca, -, -, hfu, -⟩
  have hb : BatOK (baseB (simB 0) k) := simB_ok (n := (k : Int)) (by omega) (by omega)
  have hsz : bsz (baseB (simB 0) k) = 22 := simB_sz (n := (k : Int)) (by omega) (by omega)
  obtain ⟨rfl, hc⟩ := hfu rfl
  obtain rfl := hc hb (by rw [hsz]; omega)
  obtain rfl := hca rfl
  obtain ⟨h1, h2⟩ := ha rfl
  rw [hsz] at h2
  refine ⟨rfl, es', L', S', F', ?_, ?_, hfo, hfr⟩
  · have h3 : us' = 22 * ((k + 1 : Nat) : Int) := by rw [h2, hu]; omega
    rw [← h3]
    exact hD
  · rw [h1, hsg]
    rfl
set_option maxHeartbeats 16000000 in
theorem plive_walk (w : World) (hst : StepsOK w) (hw0 : 1 ≤ w.heap.size) : Calls Tryz.prog 9 #[] w fun e w' => e = .returned (.bool true) ∧ Fr (fun _ => False) w w' := by
  have HST := Lib.hid hst
  have hpn := popen_none
  unfold cfgV at hpn
  have HPN := Lib.hid hpn
  clear hst hpn
  go_enter Tryz.func9, Tryz.ntmps9
  go_wp2_with fail
  refine (dnew_walk 10000 (fun _ => (ByteArray.empty, 0)) _ (by omega) (by omega)).mono ?_
  rintro e w1 ⟨db, mb, rfl, hdk, hf1, hdb, hmb⟩
  have hdn : DkN w1 db mb 10000 0 [] (fun _ => (ByteArray.empty, 0)) := ⟨hdk, ⟨Int.le_refl _, by omega, by decide, fun r hr => (by cases hr)⟩, rfl, by omega⟩
  have hpo := popen_new (B := w.heap.size) (p := pS) (lim := 50) (ev := 10) hdn (by omega) hw0 hdb hmb (by decide) (by decide) (by omega) (by omega) (by omega) (by omega) (HST.out.old hf1)
  unfold cfgV at hpo
  have HPO := Lib.hid hpo
  have F1 := Lib.hid hf1
  have HB := Lib.hid (And.intro hdb hmb)
  clear hdk hf1 hdb hmb hdn hpo
  go_wp2_with fail
  refine HPO.out.mono ?_
  rintro e w2 ⟨lb, S2, F2, rfl, hD, hS, hf2⟩
  have D2 := Lib.hid hD
  have F2' := Lib.hid (show Fr (fun _ => False) w w2 from F1.out.trans hf2 fun i hi => .inr (by have := HB.out; rcases hi with rfl | rfl <;> omega))
  clear hD hS hf2 HPO
  go_wp2_with fail
  refine (HPN.out w2 db).mono ?_
  rintro e w3 ⟨rfl, hf3⟩
  have D3 := Lib.hid (D2.out.old hf3)
  have F3 := Lib.hid (F2'.out.tr hf3)
  clear hf3 HPN
  go_wp2_with fail
  go_loopw [7] (fun i wr => ∃ (k : Nat) (es : List PE) (L : List Row) (S : Nat → Prop) (F : ByteArray → ByteArray × Nat), i = .int .i64 k ∧ k ≤ 7 ∧ LogD w.heap.size wr lb db mb pS 50 10 0 es true L S 10000 (22 * (k : Int)) (-1) F (2 * k) ∧ segsOf es = exS k ∧ Fr (fun _ => False) w wr) (fun i _ => 7 - (intOf i).toNat)
  case atStart => exact ⟨0, [], [], S2, F2, rfl, by omega, D3.out, rfl, F3.out⟩
  case round =>
    obtain ⟨k, es, L, S, F, rfl, hk, hD, hsg, hf⟩ := hrel
    have D := Lib.hid hD
    have SG := Lib.hid hsg
    have FF := Lib.hid hf
    clear hD hsg hf D3 F3
    rcases Nat.lt_or_ge k 7 with hlt | hge
    · have hki : (k : Int) < 7 := by omega
      go_wp2_with fail
      refine (simple_walk _).mono ?_
      rintro e w4 ⟨rv, rfl, hrv, hf4⟩
      have hap := sim_append (D.out.old hf4) SG.out rfl (by omega) (by omega) (HST.out.old (FF.out.tr hf4)) _ (fun i hi => ⟨fun h => by have := (D.out.lt (.inl h)).2; omega, fun h => by have := D.out.dk.lt h; omega⟩) rv hrv
      have HAP := Lib.hid hap
      have F4 := Lib.hid (FF.out.tr hf4)
      have HW4 := Lib.hid hf4.size
      clear hap hf4 hrv
      unfold batV simB at HAP
      unfold batV simB
      go_wp2_with fail
      refine HAP.out.mono ?_
      rintro e w5 ⟨rfl, es', L', S', F', hD5, hsg5, hfo, hfr5⟩
      have D5 := Lib.hid hD5
      have SG5 := Lib.hid hsg5
      have F5 := Lib.hid (F4.out.trans hfr5 fun i hi => .inr (D.out.lt hi).1)
      clear hD5 hsg5 hfo hfr5 HAP
      go_wp2_with fail
      go_roundw
      case rel => exact ⟨k + 1, es', L', S', F', by go_num, hlt, D5.out, SG5.out, F5.out⟩
      case measure => simp [intOf]; omega
    · obtain rfl : k = 7 := by omega
      have hel : es.length = 3 := by
        have h1 := congrArg List.length SG.out
        rw [exS7] at h1
        unfold segsOf at h1
        rw [List.length_map] at h1
        exact h1
      have hE : lgEnd 0 es = 7 := by rw [ssEnd_segs, SG.out, exS_end]; rfl
      have HRE := Lib.hid (lretain_walk (most := 50) D.out (by omega) (by omega) (by omega) (by omega))
      have HEL := Lib.hid hel
      have HE := Lib.hid hE
      clear hel hE
      go_wp2_with fail
      refine HRE.out.mono ?_
      rintro e w5 ⟨j, beg', own', L5, S5, u5, F5, rfl, hM, fin⟩
      have hret := hM.rt _ _ (Ret.stop (by
        rcases fin with h | h
        · left
          unfold segsOf
          rw [List.length_map]
          exact h
        · right
          rw [← lgSize_segs]
          exact h))
      rw [SG.out] at hret
      obtain ⟨rfl, hs6⟩ := ex_ret hret
      have hl6 := congrArg List.length hs6
      unfold segsOf at hl6
      rw [List.length_map, List.length_drop, HEL.out] at hl6
      have hj : j = 2 := by
        have h1 : 3 - j = 1 := hl6
        omega
      have D5 := Lib.hid hM.d
      have SG5 := Lib.hid hs6
      have HU5 := Lib.hid (show u5 ≤ 22 * ((7 : Nat) : Int) + 8 * (j : Int) from hM.us)
      have F5' := Lib.hid (FF.out.trans hM.fr fun i hi => .inr (D.out.lt hi).1)
      have EN5 := Lib.hid (hM.en.trans HE.out)
      have HR1 := Lib.hid (lread_walk hM.d (HST.out.old F5'.out) 0 9)
      subst hj
      clear hM fin hret hs6 hl6 HRE D SG FF HE
      go_wp2_with fail
      refine HR1.out.mono ?_
      rintro e w6 hp
      have hp' : e = .returned (.tuple #[.slice none 0 0, .int .i64 12]) ∧ Fr (fun _ => False) w5 w6 := by
        rcases hp with ⟨-, h⟩ | ⟨h, -⟩
        · exact h
        · omega
      obtain ⟨rfl, hf6⟩ := hp'
      have D6 := Lib.hid (D5.out.old hf6)
      have F6 := Lib.hid (F5'.out.tr hf6)
      have HR2 := Lib.hid (lread_walk (D5.out.old hf6) (HST.out.old (F5'.out.tr hf6)) 6 9)
      clear hp hf6 HR1 D5 F5'
      go_wp2_with fail
      refine HR2.out.mono ?_
      rintro e w7 hp
      have hcat : catE (es.drop 2) = [simB 6] := by unfold catE; rw [SG5.out]; rfl
      have hp' : ∃ oa cap, e = .returned (.tuple #[.slice oa 1 cap, .int .i64 0]) ∧ Fr (fun _ => False) w6 w7 := by
        rcases hp with ⟨h, -⟩ | ⟨-, -, v, rfl, hv, hf⟩
        · rw [EN5.out] at h; omega
        · have h9 : pick 6 9 (catE (es.drop 2)) 0 [] = [simB 6] := by
            rw [hcat, pick, if_neg (show ¬ (simB 6).base + (simB 6).span ≤ 6 from (by show ¬ (6 : Int) + 1 ≤ 6; omega)), if_neg (by simp), pick]
            rfl
          rw [h9] at hv
          obtain ⟨oa, cap, rfl, -⟩ := hv
          exact ⟨oa, cap, rfl, hf⟩
      obtain ⟨oa, cap, rfl, hf7⟩ := hp'
      have D7 := Lib.hid (D6.out.old hf7)
      have F7 := Lib.hid (F6.out.tr hf7)
      have HS := Lib.hid (lstart_walk D7.out.lg)
      clear hp hf7 hcat HR2 D6 F6
      go_wp2_with fail
      refine HS.out.mono ?_
      rintro e w8 ⟨rfl, hf8⟩
      have D8 := Lib.hid (D7.out.old hf8)
      have F8 := Lib.hid (F7.out.tr hf8)
      have hen := lend_walk D8.out.lg
      rw [EN5.out] at hen
      have HEN := Lib.hid hen
      clear hf8 HS D7 F7 hen
      go_wp2_with fail
      refine HEN.out.mono ?_
      rintro e w9 ⟨rfl, hf9⟩
      have D9 := Lib.hid (D8.out.old hf9)
      have F9 := Lib.hid (F8.out.tr hf9)
      have hu5 : u5 + 8 ≤ 10000 := by have := HU5.out; omega
      have hav := ladvance_walk (at' := 8) D9.out hu5 (by omega) (by rw [EN5.out]; omega)
      have HAV := Lib.hid hav
      clear hf9 HEN D8 F8 hav hu5
      go_wp2_with fail
      refine HAV.out.mono ?_
      rintro e w10 hp
      have hp' : e = .returned (.int .i64 12) ∧ Fr (fun _ => False) w9 w10 := by
        rcases hp with ⟨-, h⟩ | ⟨-, h, -⟩
        · exact h
        · rw [EN5.out] at h; omega
      obtain ⟨rfl, hf10⟩ := hp'
      have F10 := Lib.hid (F9.out.tr hf10)
      clear hp hf10 HAV D9 F9
      go_wp2_with fail
      go_ret
      exact ⟨rfl, F10.out⟩
end
end Go.Proofs.YtdlnafhhkpklmaaGreatDoor
