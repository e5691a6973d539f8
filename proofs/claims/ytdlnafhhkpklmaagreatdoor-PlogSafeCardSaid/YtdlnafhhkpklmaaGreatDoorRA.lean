/- PlogSafe: laws and the walk. -/
import Derived.Test.YtdlnafhhkpklmaaGreatDoorQN
import Derived.Test.YtdlnafhhkpklmaaGreatDoorGD
namespace Go.Proofs.YtdlnafhhkpklmaaGreatDoor
open Go.RowKit Go.Fm Go.BigFrame Go.Shelf Go.Maps
set_option linter.unusedVariables false
set_option linter.unusedSimpArgs false
set_option maxRecDepth 100000

section
variable {B : Nat} {w w' w1 w2 : World} {lb db mb : Nat} {p : ByteArray} {lim ev : Nat} {beg at' : Int} {es : List PE} {own : Bool} {L L' : List Row} {S S' : Nat → Prop} {room used fuse : Int} {F F' : ByteArray → ByteArray × Nat} {n : Nat}
theorem OwnBats.mono {K K' : Nat → Prop} {B : Nat} {w : World} {v : Value} {bs : List Bat} (h : OwnBats K B w v bs) (hK : ∀ b, K b → b < w.heap.size → K' b) : OwnBats K' B w v bs := by
  obtain ⟨zs, h1, h2, h3⟩ := h
  exact ⟨zs, h1, h2, fun z hz => (h3 z hz).mono fun b hb hl => ⟨hK b hb.1 hl, hb.2⟩⟩
theorem bats_take {K : Nat → Prop} {w : World} {oa : Option Addr} {n cap : Nat} {l : List Bat} (h : BatsR K w (.slice oa n cap) l) {q : Nat} (hq : q ≤ l.length) : BatsR K w (.slice oa q cap) (l.take q) := by
  obtain ⟨oa', cap', hv, h⟩ := h
  injection hv with e1 e2 e3
  subst e1 e3
  refine ⟨oa, cap, by rw [List.length_take]; congr 1; omega, fun k b hb => ?_⟩
  rw [List.getElem?_take] at hb
  split at hb
  · exact h k b hb
  · cases hb
/-- Batches that the call has gathered; they lie apart from a log and its disk. -/
def AllR (w wr : World) (o : Value) (lst : List Bat) (db mb : Nat) (L : List Row) (S : Nat → Prop) : Prop :=
  ∃ KA : Nat → Prop, OwnBats KA w.heap.size wr o lst ∧ (∀ x, KA x → x < wr.heap.size ∧ ¬ S x ∧ ¬ DkS db mb L x) ∧ ∀ x, o.ownBlock = some x → ¬ S x ∧ ¬ DkS db mb L x
theorem AllR.nil (w wr : World) (db mb : Nat) (L : List Row) (S : Nat → Prop) : AllR w wr (.slice none 0 0) [] db mb L S :=
  ⟨fun _ => False, OwnBats.nil _ _ _, fun x h => h.elim, fun x h => by simp [Value.ownBlock] at h⟩
theorem AllR.old {wr : World} {o : Value} {lst : List Bat} (h : AllR w wr o lst db mb L S) (hf : Fr (fun _ => False) wr w') : AllR w w' o lst db mb L S := by
  obtain ⟨KA, h1, h2, h3⟩ := h
  exact ⟨KA, h1.old hf, fun x hx => ⟨Nat.lt_of_lt_of_le (h2 x hx).1 hf.size, (h2 x hx).2⟩, h3⟩
theorem AllR.step {wr : World} {o : Value} {lst : List Bat} (h : AllR w wr o lst db mb L S) (hf : Fr (fun i => S i ∨ DkS db mb L i) wr w') (hS : ∀ i, S' i → S i ∨ wr.heap.size ≤ i) (hD : ∀ i, DkS db mb L' i → DkS db mb L i ∨ wr.heap.size ≤ i) : AllR w w' o lst db mb L' S' := by
  obtain ⟨KA, h1, h2, h3⟩ := h
  refine ⟨KA, h1.fr hf (fun k hk h => h.elim (h2 k hk).2.1 (h2 k hk).2.2) fun k hk h => h.elim (h3 k hk).1 (h3 k hk).2, fun x hx => ⟨Nat.lt_of_lt_of_le (h2 x hx).1 hf.size, fun h => ?_, fun h => ?_⟩, fun x hx => ⟨fun h => ?_, fun h => ?_⟩⟩
  · rcases hS x h with h | h
    · exact (h2 x hx).2.1 h
    · have := (h2 x hx).1; omega
  · rcases hD x h with h | h
    · exact (h2 x hx).2.2 h
    · have := (h2 x hx).1; omega
  · rcases hS x h with h | h
    · exact (h3 x hx).1 h
    · have := (h1.lt hx).2; omega
  · rcases hD x h with h | h
    · exact (h3 x hx).2 h
    · have := (h1.lt hx).2; omega
theorem LogD.refuse {fuse2 : Int} (h : LogD B w lb db mb p lim ev beg es own L S room used fuse F n) (hf : Fr (DkS db mb L) w w') (hd : Dk w' db mb room used fuse2 L F) (hw : (Lit.int .i64 fuse2).wf = true) : LogD B w' lb db mb p lim ev beg es own L S room used fuse2 F n :=
  ⟨h.lg.fr hf fun i hi => h.lg.ap hi, hd, ⟨h.ok.u0, h.ok.u1, hw, h.ok.fs⟩, h.us, h.ur, h.rm, h.fl, h.dl, h.b1, h.nL, h.nE, h.nB, h.n1, h.be⟩
/-- A disk behind a crash, whatever its fuse was. -/
theorem crash_inF {e : Ending} (D : LogD B w lb db mb p lim ev beg es own L S room used fuse F n) (hst : StepsOK w) (hb1 : beg ≤ 1099511627776) (ev' lim' : Nat) (l1 : 50 ≤ lim') (l2 : lim' ≤ 1000000) (e1 : 1 ≤ ev') (e2 : ev' ≤ 1000000) (hc : CrashPost w db mb room L F e w') :
    ∃ (c : Nat) (F' : ByteArray → ByteArray × Nat) (ts : List Seg), e = .returned (.int .i64 c) ∧ c ≤ L.length ∧ Fr (DkS db mb L) w w' ∧ Reopen p beg (segsOf es) ev' L F F' ts ∧ (beg ≤ ssEnd beg ts → OpenIn B w' db mb p lim' ev' beg ts L room (usd L F') F' n) := by
  obtain ⟨c, F', rfl, hcl, hd, hcr, hf⟩ := hc
  obtain ⟨ts, R⟩ := reopen D.fl (fun s hs => D.chn hs) D.file_le (fun s hs => by
    obtain ⟨x, hx, rfl⟩ := List.mem_map.1 hs
    have := (D.last_le hx).2
    have := D.n1
    omega) hcr ev'
  have hle : ∀ r ∈ L, (F' r.1).1.size ≤ (F r.1).1.size ∧ (F' r.1).2 ≤ (F' r.1).1.size := fun r hr => by
    obtain ⟨n, h1, h2, h3⟩ := hcr r hr
    rw [h3]
    refine ⟨by rw [ByteArray.size_extract]; omega, ?_⟩
    show n ≤ ((F r.1).1.extract 0 n).size
    rw [ByteArray.size_extract]
    omega
  have hu := usd_mono (F := F) (F' := F') fun r hr => (hle r hr).1
  have hus := D.us
  have hur := D.ur
  have hrm := D.rm
  have hb0 : 0 ≤ beg := by
    obtain ⟨sv, G, hV, -⟩ := D.lg
    exact hV.b0
  have htl := R.len
  have hesl := D.nE
  have hcat : (catL ts).length ≤ n := by
    obtain ⟨k, hk⟩ := R.take
    rw [hk, List.length_take]
    have := D.nB
    omega
  refine ⟨c, F', ts, rfl, hcl, hf, R, fun hbe => ⟨⟨hd, ⟨by omega, by omega, by decide, fun r hr => ⟨?_, (hle r hr).2⟩⟩, rfl, by omega⟩, D.rm, R.i, R.st, hb0, hb1, hbe, D.dl, D.b1, D.nL, ?_, hcat, D.n1, D.lg.p1, D.lg.p2, l1, l2, e1, e2, hst.fr hf fun h => D.nz (.inr h) rfl⟩⟩
  · have := D.file_le r hr
    have := (hle r hr).1
    omega
  · unfold segsOf at htl
    rw [List.length_map] at htl
    omega
theorem segs_nil {es : List PE} (h : es.getLast? = none) : es = [] := List.getLast?_eq_none_iff.1 h
/-- Sync of a log, whatever the fuse. -/
theorem any_sync (D : LogD B w lb db mb p lim ev beg es own L S room used fuse F n) : Calls Tryz.prog 25 #[.pointer (some ⟨lb, 0, none⟩)] w fun e w' => ∃ (c : Int) (fuse' : Int) (F' : ByteArray → ByteArray × Nat), e = .returned (.int .i64 c) ∧
    LogD B w' lb db mb p lim ev beg es own L S room used fuse' F' n ∧ Others p L F L F' ∧ (∀ k, SafeN p (segsOf es) L F k → SafeN p (segsOf es) L F' k) ∧ (c = 0 → ∀ k, k ≤ (catE es).length → SafeN p (segsOf es) L F' k) ∧ (fuse = -1 → c = 0 ∧ fuse' = -1) ∧ Fr (fun i => S i ∨ DkS db mb L i) w w' := by
  refine (lsync_walk D.lg D.dk D.ok).mono ?_
  intro e w1 hp
  unfold LSynPost at hp
  cases hl : es.getLast? with
  | none =>
    rw [hl] at hp
    obtain ⟨rfl, hf⟩ := hp
    obtain rfl := segs_nil hl
    exact ⟨0, fuse, F, rfl, D.old hf, Others.refl _ _ _, fun k h => h, fun _ k hk => .inl (show k ≤ 0 from hk), fun h => ⟨rfl, h⟩, hf.mono fun i h => h.elim⟩
  | some x =>
    rw [hl] at hp
    have h1 := snoc_last hl
    rw [← h1] at D ⊢
    obtain ⟨c, rfl, f', F', hD, ho, hs, hl2, hc, hm, -, hfr⟩ := D.synced hp
    exact ⟨c, f', F', rfl, hD, ho, hs, fun h k hk => SafeN.all (hl2 h) hk, hm, hfr⟩
theorem trimN_zero {ss : List Seg} (hc : ∀ s ∈ ss, Chn s.base s.l) (hf : ∀ s ∈ ss.dropLast, s.l ≠ []) : trimN 0 ss = 0 := by
  match ss with
  | [] => rfl
  | [_] => rfl
  | a :: b :: r =>
    rw [trimN, if_neg]
    have h1 := (hc a List.mem_cons_self).lt_end (hf a (by simp))
    have h2 : a.end' = endOf a.base a.l := rfl
    omega
theorem ssEnd_ge0 {ss : List Seg} (hc : ∀ s ∈ ss, Chn s.base s.l) : 0 ≤ ssEnd 0 ss := by
  unfold ssEnd
  cases e : ss.getLast? with
  | none => exact Int.le_refl _
  | some s =>
    have h1 := (hc s (List.mem_of_getLast? e)).end_ge
    have h2 : s.end' = endOf s.base s.l := rfl
    show 0 ≤ s.end'
    omega
theorem small_few {b : Bat} (h : SmallB b) : b.recs.length ≤ 1000 ∧ ∀ r ∈ b.recs, r.hs.length ≤ 1000 := by
  refine ⟨by have := h.len; omega, fun r hr => ?_⟩
  have := (h.recs r hr).1
  omega
/-- The argument's cells. -/
structure TornAt (w : World) (pb : Nat) (v : Value) (sy : Int) (kv : Value) (lm fu : Int) : Prop where
  a0 : w.cell? ⟨pb, 0, none⟩ = some v
  a1 : w.cell? ⟨pb, 1, none⟩ = some (.int .i64 sy)
  a2 : w.cell? ⟨pb, 2, none⟩ = some kv
  a3 : w.cell? ⟨pb, 3, none⟩ = some (.int .i64 lm)
  a4 : w.cell? ⟨pb, 4, none⟩ = some (.int .i64 fu)
theorem TornAt.old {pb : Nat} {v kv : Value} {sy lm fu : Int} (h : TornAt w pb v sy kv lm fu) (hf : Fr (fun _ => False) w w') : TornAt w' pb v sy kv lm fu :=
  ⟨hf.cel h.a0, hf.cel h.a1, hf.cel h.a2, hf.cel h.a3, hf.cel h.a4⟩
/-- Between two batches of the argument. -/
structure PfMid (w wr : World) (lb db mb lim k : Nat) (es : List PE) (L : List Row) (S : Nat → Prop) (used fuse : Int) (F : ByteArray → ByteArray × Nat) (o : Value) (safe : Nat) : Prop where
  d : LogD w.heap.size wr lb db mb pS lim 50 0 es true L S 200000 used fuse F (2 * k)
  us : used ≤ 16068 * k
  sz : sumB (catE es) ≤ 16068 * k
  len : (catE es).length ≤ k
  sf : SafeN pS (segsOf es) L F safe
  al : AllR w wr o (catE es) db mb L S
  fr : Fr (fun _ => False) w wr
theorem PfMid.old {wr : World} {k safe lim : Nat} {o : Value} (h : PfMid w wr lb db mb lim k es L S used fuse F o safe) (hf : Fr (fun _ => False) wr w') : PfMid w w' lb db mb lim k es L S used fuse F o safe :=
  ⟨h.d.old hf, h.us, h.sz, h.len, h.sf, h.al.old hf, h.fr.tr hf⟩
def tornV (v : Value) (sy : Int) (kv : Value) (lm fu : Int) : Value := .agg #[v, .int .i64 sy, kv, .int .i64 lm, .int .i64 fu]
end

theorem r22 : Tryz.prog.cellsOf 22 = 1 := by kernel_rfl
theorem r49 : Tryz.prog.cellsOf 49 = 1 := by kernel_rfl
section
open Go.ChangeShapes Go.WideShapes Go.ChangeAt Go.Joins Go.Deep
variable {H : Type} {enc : TypeId × Value → H} {W : World} {spare : Nat → Bool} {held : Bool}
theorem tornA_fields {m : Nat} {cs : List Value} {x : DataW H × List MemPlace} (h : DataW.trod enc Tryz.prog W 0 spare held m 51 cs = some x) (hlen : cs.length = 5) :
    ∃ v0 sy kv lm fu bs ks, cs = [v0, .int .i64 sy, kv, .int .i64 lm, .int .i64 fu] ∧ BatsR (fun _ => True) W v0 bs ∧ IntsR W kv ks ∧ (Lit.int .i64 fu).wf = true ∧ (Lit.int .i64 sy).wf = true := by
  obtain ⟨xs, n', _, _, hcl, hxl, hf⟩ := DataW.trod_struct Tryz.underlying51 h
  have hx5 : xs.length = 5 := hxl.trans (by kernel_rfl)
  clear hxl
  match cs, hlen, xs, hx5 with
  | [v0, v1, v2, v3, v4], _, [y0, y1, y2, y3, y4], _ =>
    have t0 := hf 0
    have t1 := hf 1
    have t2 := hf 2
    have t3 := hf 3
    have t4 := hf 4
    simp [q3, r22, r49] at t0 t1 t2 t3 t4
    obtain ⟨n1, e1, -, w1⟩ := DataW.trod_int Tryz.underlying3 t1
    obtain ⟨n3, e3, -, -⟩ := DataW.trod_int Tryz.underlying3 t3
    obtain ⟨n4, e4, -, w4⟩ := DataW.trod_int Tryz.underlying3 t4
    obtain ⟨bs, hb, -⟩ := bats_of t0
    obtain ⟨ks, hk⟩ := ints_of t2
    simp only [List.cons.injEq, and_true] at e1 e3 e4
    subst e1 e3 e4
    exact ⟨v0, n1, v2, n3, n4, bs, ks, rfl, hb, hk, w4, w1⟩
theorem tornA_of {r : Reach} {b0 : Nat} {v : Value} {d : DataW H} {p : List MemPlace} (hv : Value.okWide Tryz.prog W r b0 51 v) (h : DataW.Trod enc Tryz.prog W 0 spare held 51 v d p) :
    ∃ v0 sy kv lm fu bs ks, v = tornV v0 sy kv lm fu ∧ BatsR (fun _ => True) W v0 bs ∧ IntsR W kv ks ∧ (Lit.int .i64 fu).wf = true ∧ (Lit.int .i64 sy).wf = true := by
  obtain ⟨cs, rfl, hsz⟩ := okWide_struct Tryz.underlying51 hv
  obtain ⟨l⟩ := cs
  obtain ⟨fuel, hf⟩ := h
  have hl : l.length = 5 := hsz.trans (by kernel_rfl)
  obtain ⟨v0, sy, kv, lm, fu, bs, ks, he, ho⟩ := tornA_fields hf hl
  exact ⟨v0, sy, kv, lm, fu, bs, ks, by unfold tornV; have e : l = _ := he; rw [e], ho⟩
end
section
variable {B : Nat} {w w' w1 w2 : World} {lb db mb : Nat} {p : ByteArray} {lim ev : Nat} {beg at' : Int} {es : List PE} {own : Bool} {L L' : List Row} {S S' : Nat → Prop} {room used fuse : Int} {F F' : ByteArray → ByteArray × Nat} {n : Nat}
set_option maxHeartbeats 32000000 in
theorem psafe_walk (l : List Bat) (v : Value) (sy : Int) (ks : List Int) (kv : Value) (lm fu : Int) (w : World) (hl : BatsR (fun _ => True) w v l) (hk : IntsR w kv ks) (hst : StepsOK w) (hw0 : 1 ≤ w.heap.size) (hfw : (Lit.int .i64 fu).wf = true) :
    Calls Tryz.prog 5 #[tornV v sy kv lm fu] w fun e w' => e = .returned (.bool true) ∧ Fr (fun _ => False) w w' := by
  have hl2 := hl.mono (K' := fun b => b < w.heap.size) fun b _ h => h
  clear hl
  obtain ⟨oa, cap, rfl, hl3⟩ := hl2
  obtain ⟨ka, kc, rfl, hk3⟩ := hk
  unfold tornV
  have hfa := (Fr.same w).alloc (.cells #[.slice oa l.length cap, .int .i64 sy, .slice ka ks.length kc, .int .i64 lm, .int .i64 fu] 51)
  have hta : TornAt (w.alloc (.cells #[.slice oa l.length cap, .int .i64 sy, .slice ka ks.length kc, .int .i64 lm, .int .i64 fu] 51)) w.heap.size (.slice oa l.length cap) sy (.slice ka ks.length kc) lm fu :=
    ⟨cell_alloc_new w _ 51 0, cell_alloc_new w _ 51 1, cell_alloc_new w _ 51 2, cell_alloc_new w _ 51 3, cell_alloc_new w _ 51 4⟩
  have hsa : (w.alloc (.cells #[.slice oa l.length cap, .int .i64 sy, .slice ka ks.length kc, .int .i64 lm, .int .i64 fu] 51)).heap.size = w.heap.size + 1 := by simp
  obtain ⟨oa2, cap2, e2, hl4⟩ := (show BatsR (fun b => b < w.heap.size) (w.alloc (.cells #[.slice oa l.length cap, .int .i64 sy, .slice ka ks.length kc, .int .i64 lm, .int .i64 fu] 51)) (.slice oa l.length cap) l from BatsR.old ⟨oa, cap, rfl, hl3⟩ hfa)
  injection e2 with e2 _ e3
  subst e2 e3
  have HL := Lib.hid hl4
  have HK := Lib.hid (show ∀ (i : Nat) (x : Int), ks[i]? = some x → ∃ a, ka = some a ∧ (w.alloc (.cells #[.slice oa l.length cap, .int .i64 sy, .slice ka ks.length kc, .int .i64 lm, .int .i64 fu] 51)).cell? (a.add i) = some (.int .i64 x) from fun i x h => by
    obtain ⟨a, h1, h2, -⟩ := hk3 i x h
    exact ⟨a, h1, hfa.cel h2⟩)
  have HST := Lib.hid (hst.old hfa)
  have TA := Lib.hid hta
  have FA := Lib.hid hfa
  have SA := Lib.hid hsa
  have FW := Lib.hid hfw
  clear hl3 hl4 hk3 hst hfa hsa hta hfw
  by_cases hbad : 10 < l.length ∨ lm < 50 ∨ 1000000 < lm
  · have h3 : 10 < l.length ∨ (l.length ≤ 10 ∧ lm < 50) ∨ (l.length ≤ 10 ∧ 50 ≤ lm ∧ 1000000 < lm) := by omega
    clear hbad
    rcases h3 with h8 | ⟨h7, h8⟩ | ⟨h7, h8, h9⟩
    all_goals
      go_enter Tryz.func5, Tryz.ntmps5
      go_wp2_with fail
      refine (plive_walk _ HST.out (Nat.le_trans hw0 FA.out.size)).mono ?_
      rintro e w4 ⟨rfl, hf4⟩
      have F4 := Lib.hid (FA.out.tr hf4)
      clear hf4
      go_wp2_with fail
      go_ret
      exact ⟨rfl, F4.out⟩
  · have hlen : l.length ≤ 10 := by omega
    have hl50 : 50 ≤ lm := by omega
    have hlM : lm ≤ 1000000 := by omega
    obtain ⟨lim, rfl⟩ : ∃ n : Nat, lm = (n : Int) := ⟨lm.toNat, by omega⟩
    have LIM := Lib.hid (show 50 ≤ lim ∧ lim ≤ 1000000 by omega)
    have n50 : ¬ (lim : Int) < 50 := by omega
    have nM : ¬ (1000000 : Int) < lim := by omega
    clear hbad hl50 hlM
    go_enter Tryz.func5, Tryz.ntmps5
    go_wp2_with fail
    generalize (w.alloc (.cells #[.slice oa l.length cap, .int .i64 sy, .slice ka ks.length kc, .int .i64 lim, .int .i64 fu] 51)) = W at *
    clear n50 nM
    refine (dnew_n 200000 W (by omega) (by omega)).mono ?_
    rintro e w1 ⟨db, mb, rfl, hdn, hdb, hmb, hf1⟩
    have hpo := popen_new (B := W.heap.size) (p := pS) (lim := lim) (ev := 50) hdn (by omega) (Nat.le_trans hw0 FA.out.size) hdb hmb (by decide) (by decide) LIM.out.1 LIM.out.2 (by omega) (by omega) (HST.out.old hf1)
    unfold cfgV pS at hpo
    have HPO := Lib.hid hpo
    have F1 := Lib.hid hf1
    have HB := Lib.hid (And.intro hdb hmb)
    obtain ⟨q0, q1, q2, q3, q4⟩ := TA.out.old hf1
    clear hf1 hdb hmb hdn hpo
    go_wp2_with fail
    refine HPO.out.mono ?_
    rintro e w2 ⟨lb, S2, F2, rfl, hD, hS, hf2⟩
    have D2 := Lib.hid hD
    have F2' := Lib.hid (show Fr (fun _ => False) W w2 from F1.out.trans hf2 fun i hi => .inr (by have := HB.out; rcases hi with rfl | rfl <;> omega))
    have S2B := Lib.hid (fun i hi => Nat.le_trans F1.out.size (hS i hi))
    clear hD hS hf2 HPO q0 q1 q2 q3 q4
    obtain ⟨q0, q1, q2, q3, q4⟩ := TA.out.old F2'.out
    have hmw : (Lit.int .i64 (max fu (-1))).wf = true := by
      have h : max fu (-1) = fu ∨ max fu (-1) = -1 := by omega
      rcases h with h | h
      · rw [h]; exact FW.out
      · rw [h]; decide
    have HFU := Lib.hid (dfuse_walk D2.out.dk (max fu (-1)) (by omega))
    have HMW := Lib.hid hmw
    clear hmw
    go_wp2_with fail
    refine HFU.out.mono ?_
    rintro e w3 ⟨rfl, hd3, hf3⟩
    have M3 := Lib.hid (show PfMid W w3 lb db mb lim 0 [] [] S2 0 (max fu (-1)) F2 (.slice none 0 0) 0 from ⟨LogD.refuse D2.out hf3 hd3 HMW.out, by omega, by simp [catE, catL, segsOf, sumB], by simp [catE, catL, segsOf], .inl (Nat.zero_le _), AllR.nil _ _ _ _ _ _, F2'.out.trans hf3 fun i hi => .inr (D2.out.dl i hi)⟩)
    clear hd3 hf3 HFU q0 q1 q2 q3 q4 D2 F2' F1 HB
    go_wp2_with fail
    go_loopw [7, 8, 9] (fun o s0 i wr => ∃ (k : Nat) (es : List PE) (L : List Row) (S : Nat → Prop) (F : ByteArray → ByteArray × Nat) (used fuse : Int) (safe : Nat), i = .int .i64 k ∧ s0 = .int .i64 safe ∧ k ≤ l.length ∧ PfMid W wr lb db mb lim k es L S used fuse F o safe) (fun _ _ i _ => l.length - (intOf i).toNat)
    case atStart => exact ⟨0, [], [], S2, F2, 0, max fu (-1), 0, rfl, rfl, Nat.zero_le _, M3.out⟩
    case round =>
      obtain ⟨k, es, L, S, F, used, fuse, safe, rfl, rfl, hk, hm⟩ := hrel
      clear M3 S2B
      have M := Lib.hid hm
      obtain ⟨ob, ocap, hob⟩ : ∃ a c, _ = Value.slice a (catE es).length c := by obtain ⟨KA, h1, -⟩ := hm.al; exact h1.slice
      subst hob
      clear hm
      obtain ⟨q0, q1, q2, q3, q4⟩ := TA.out.old M.out.fr
      rcases Nat.lt_or_ge k l.length with hlt | hge
      · obtain ⟨b, hb⟩ := get_of_lt hlt
        obtain ⟨A, rv, rfl, hA, hc, hr⟩ := HL.out k b hb
        have hc1 := hc.to (M.out.fr.block _ hc.lt fun h => h)
        have hr1 := hr.old M.out.fr
        have hh := hr1
        obtain ⟨ra, rcap, rfl, -⟩ := hh
        have HC1 := Lib.hid hc1
        have HR1 := Lib.hid hr1
        obtain ⟨c0, c1, c2, c3, c4, c5⟩ := hc1
        have HOB := Lib.hid (show ∀ x, (Value.slice ob (catE es).length ocap).ownBlock = some x → x < wr.heap.size from fun x hx => by obtain ⟨KA, h1, -⟩ := M.out.al; exact (h1.lt hx).2)
        have HSM := Lib.hid (small_walk _ b _ _ hr1)
        clear hb hc hr hr1
        unfold batV at HSM
        go_wp2_with fail
        refine HSM.out.mono ?_
        rintro e w3 ⟨c, rfl, hsm, hf3⟩
        have M3 := Lib.hid (M.out.old hf3)
        have HW3 := Lib.hid hf3.size
        have HC3 := Lib.hid (HC1.out.to (hf3.block _ HC1.out.lt fun h => h))
        have HR3 := Lib.hid (HR1.out.old hf3)
        clear hf3 HSM c0 c1 c2 c3 c4 c5 HC1 HR1 q0 q1 q2 q3 q4
        cases c with
        | false =>
          clear hsm
          go_wp2_with fail
          refine (plive_walk _ (HST.out.old M3.out.fr) (Nat.le_trans hw0 (FA.out.tr M3.out.fr).size)).mono ?_
          rintro e w4 ⟨rfl, hf4⟩
          have F4 := Lib.hid (FA.out.tr (M3.out.fr.tr hf4))
          clear hf4
          go_wp2_with fail
          go_ret
          exact ⟨rfl, F4.out⟩
        | true =>
          obtain ⟨hf1, hf2⟩ := small_few (hsm rfl)
          have HF2 := Lib.hid hf2
          have SM := Lib.hid (hsm rfl)
          clear hsm hf2
          obtain ⟨q0, q1, q2, q3, q4⟩ := TA.out.old M3.out.fr
          obtain ⟨c0, c1, c2, c3, c4, c5⟩ := HC3.out
          have HCP := Lib.hid (copy_bat _ b _ _ HR3.out hf1 HF2.out)
          unfold batV at HCP
          go_wp2_with fail
          refine HCP.out.mono ?_
          rintro e w4 ⟨rv4, rfl, hr4, hf4⟩
          obtain ⟨ra4, rcap4, hrv⟩ : ∃ a c, rv4 = .slice a b.recs.length c := by obtain ⟨a, c, h, -⟩ := hr4; exact ⟨a, c, h⟩
          subst hrv
          have M4 := Lib.hid (M3.out.old hf4)
          have HR4 := Lib.hid (hr4.mono (K' := fun x => w3.heap.size ≤ x ∧ x < w4.heap.size) fun x hx hl => ⟨hx, hl⟩)
          have HSZ := Lib.hid hf4.size
          clear hr4 hf4 HCP c0 c1 c2 c3 c4 c5 q0 q1 q2 q3 q4
          have fal := (Fr.same w4).alloc (.cells (batBox b (.slice ra4 b.recs.length rcap4)) 36)
          have MA := Lib.hid (M4.out.old fal)
          have XA := Lib.hid (heap_alloc_self w4 (.cells (batBox b (.slice ra4 b.recs.length rcap4)) 36))
          have SWA := Lib.hid (show (w4.alloc (.cells (batBox b (.slice ra4 b.recs.length rcap4)) 36)).heap.size = w4.heap.size + 1 by simp)
          have HEN := Lib.hid (lend_walk MA.out.d.lg)
          have FAL := Lib.hid fal
          clear fal
          unfold batV
          unfold batBox at MA XA SWA HEN FAL
          go_wp2_with fail
          refine HEN.out.mono ?_
          obtain ⟨E, hE⟩ : ∃ E, E = lgEnd 0 es := ⟨_, rfl⟩
          rw [← hE]
          rintro e w5 ⟨rfl, hf5⟩
          have HE := Lib.hid hE
          have X5 := Lib.hid ((hf5.block w4.heap.size (by rw [SWA.out]; omega) (fun h => h)).trans XA.out)
          have F5 := Lib.hid (FAL.out.tr hf5)
          clear hE hf5 HEN MA XA FAL SWA
          obtain ⟨xb, hxb⟩ : ∃ xb, xb = w4.heap.size := ⟨_, rfl⟩
          have HXB := Lib.hid hxb
          rw [← hxb] at X5 ⊢
          clear hxb
          have f0 := fz_of X5.out 0
          have k0 : w5.cell? ⟨xb, 0, none⟩ = some (.int .i64 b.base) := (cell_of X5.out 0).trans rfl
          have X6 := Lib.hid (show (w5.setCell ⟨xb, 0, none⟩ (.int .i64 E)).heap[xb]? = some (.cells #[.int .i64 E, .int .i64 b.span, .int .i64 b.prod, .int .i64 b.epoch, .int .i64 b.seq, .slice ra4 b.recs.length rcap4] 36 (0, 0)) by rw [heap_setCell_self X5.out]; rfl)
          have FS := Lib.hid (show Fr (fun _ => False) w4 (w5.setCell ⟨xb, 0, none⟩ (.int .i64 E)) from F5.out.trans (Fr.setCell (S := fun i => i = xb) (p := ⟨xb, 0, none⟩) (Fr.refl _ w5) (.inl rfl) _) fun i hi => .inr (by have := HXB.out; omega))
          have c0 := (cell_of X6.out 0).trans rfl
          have c1 := (cell_of X6.out 1).trans rfl
          have c2 := (cell_of X6.out 2).trans rfl
          have c3 := (cell_of X6.out 3).trans rfl
          have c4 := (cell_of X6.out 4).trans rfl
          have c5 := (cell_of X6.out 5).trans rfl
          have M6 := Lib.hid (M4.out.old FS.out)
          have HR6 := Lib.hid (HR4.out.old FS.out)
          have HAP := Lib.hid (show Calls Tryz.prog 13 #[.pointer (some ⟨lb, 0, none⟩), .agg #[.int .i64 E, .int .i64 b.span, .int .i64 b.prod, .int .i64 b.epoch, .int .i64 b.seq, .slice ra4 b.recs.length rcap4], .bool false] (w5.setCell ⟨xb, 0, none⟩ (.int .i64 E)) (LApPost W.heap.size (w5.setCell ⟨xb, 0, none⟩ (.int .i64 E)) lb db mb pS lim 50 0 es true L S 200000 used fuse F (2 * k) (baseB b E) false) from by
            have h := lapp M6.out.d (by omega) (HST.out.old M6.out.fr) (fun x => w3.heap.size ≤ x ∧ x < w4.heap.size) (fun x hx => ⟨fun h => by have := (M3.out.d.lt (.inl h)).2; omega, fun h => by have := (M3.out.d.lt (.inr h)).2; omega⟩) (baseB b E) (.slice ra4 b.recs.length rcap4) HR6.out false
            rw [← HE.out] at h
            exact h)
          clear HR4 M4
          go_wp2_with fail
          generalize hW6 : (w5.setCell ⟨xb, 0, none⟩ (.int .i64 E)) = W6 at *
          refine HAP.out.mono ?_
          rintro e w7 ⟨c, a, es', L', S', us', fu', F', rfl, hD7, hot, hsf, hfo, hfr7, ha, hna, hca, hac, hno, hfu, -⟩
          have SF7 := Lib.hid (hsf _ M6.out.sf)
          have F7 := Lib.hid (M6.out.fr.trans hfr7 fun i hi => .inr (M6.out.d.lt hi).1)
          have hlt6 : ∀ i, S i ∨ DkS db mb L i → i < xb := fun i hi => by have := (M3.out.d.lt hi).2; have := HSZ.out; have := HXB.out; omega
          have X7 := Lib.hid ((hfr7.block xb (World.block_lt_of_cell? W6 _ c0) (fun h => by have := hlt6 xb h; omega)).trans X6.out)
          have HR7 := Lib.hid (HR6.out.fr hfr7 fun x hx h => by have := (M3.out.d.lt h).2; omega)
          have AL7 := Lib.hid (M6.out.al.step hfr7 (fun i hi => (hfo.1 i hi).imp id fun h => h.1) (fun i hi => (hfo.2 i hi).imp id fun h => h.1))
          have HX6 := Lib.hid (show xb < W6.heap.size from World.block_lt_of_cell? W6 _ c0)
          have HFO := Lib.hid hfo
          have S67 := Lib.hid hfr7.size
          have D7 := Lib.hid (show LogD W.heap.size w7 lb db mb pS lim 50 0 es' true L' S' 200000 us' fu' F' (2 * (k + 1)) from hD7)
          clear c0 c1 c2 c3 c4 c5 hD7 hot hsf hfo hfr7 HAP f0 k0 X5 X6
          by_cases hc0 : c = 0
          · subst hc0
            obtain rfl := hca rfl
            obtain ⟨h1, h2⟩ := ha rfl
            have hbo : BatOK (baseB b E) := by
              by_cases hbo : BatOK (baseB b E)
              · exact hbo
              · have := (hno hbo).1; omega
            have hbs : bsz (baseB b E) ≤ 16068 := bsz_small hbo (SM.out.recs_eq rfl)
            have hct : catE es' = catE es ++ [baseB b E] := by unfold catE; rw [h1, catL_app]
            have CT := Lib.hid hct
            have HU7 := Lib.hid (show us' ≤ 16068 * ((k + 1 : Nat) : Int) by have := M6.out.us; omega)
            have HZ7 := Lib.hid (show sumB (catE es') ≤ 16068 * (k + 1) by rw [hct, sumB_snoc]; have := M6.out.sz; omega)
            have HN7 := Lib.hid (show (catE es).length ≤ k from M6.out.len)
            clear ha hna hca hac hno hfu h1 h2 hbo hbs hct
            obtain ⟨KA, hK1, hK2, hK3⟩ := AL7.out
            have fa := (Fr.same w7).alloc (.cells (batCells (baseB b E) (.slice ra4 b.recs.length rcap4)).toArray 36)
            have OWN := Lib.hid ((hK1.old fa).mono (K' := fun x => KA x ∨ (w3.heap.size ≤ x ∧ x < w4.heap.size)) fun x hx _ => .inl hx)
            have CA := Lib.hid (fun j => cell_alloc_new w7 (batCells (baseB b E) (.slice ra4 b.recs.length rcap4)).toArray 36 j)
            have RR := Lib.hid (show RecsR (fun x => (KA x ∨ (w3.heap.size ≤ x ∧ x < w4.heap.size)) ∧ (Value.slice ob (catE es).length ocap).ownBlock ≠ some x) _ (.slice ra4 b.recs.length rcap4) (baseB b E).recs from (HR7.out.old fa).mono fun x hx _ => ⟨.inr hx, fun e => by have h8 := HOB.out x e; have h9 := HW3.out; omega⟩)
            have FA7 := Lib.hid fa
            have HK2 := Lib.hid hK2
            have HK3 := Lib.hid hK3
            have HK6 := Lib.hid (show ∀ x, (w3.heap.size ≤ x ∧ x < w4.heap.size) → ¬ S' x ∧ ¬ DkS db mb L' x from fun x hx => ⟨fun h => by
              rcases HFO.out.1 x h with h | h
              · have := (M3.out.d.lt (.inl h)).2; omega
              · have := HXB.out; have := HX6.out; omega, fun h => by
              rcases HFO.out.2 x h with h | h
              · have := (M3.out.d.lt (.inr h)).2; omega
              · have := HXB.out; have := HX6.out; omega⟩)
            have c0 : w7.cell? ⟨xb, 0, none⟩ = some (.int .i64 E) := (cell_of X7.out 0).trans rfl
            have c1 : w7.cell? ⟨xb, 1, none⟩ = some (.int .i64 b.span) := (cell_of X7.out 1).trans rfl
            have c2 : w7.cell? ⟨xb, 2, none⟩ = some (.int .i64 b.prod) := (cell_of X7.out 2).trans rfl
            have c3 : w7.cell? ⟨xb, 3, none⟩ = some (.int .i64 b.epoch) := (cell_of X7.out 3).trans rfl
            have c4 : w7.cell? ⟨xb, 4, none⟩ = some (.int .i64 b.seq) := (cell_of X7.out 4).trans rfl
            have c5 : w7.cell? ⟨xb, 5, none⟩ = some (.slice ra4 b.recs.length rcap4) := (cell_of X7.out 5).trans rfl
            clear hK1 hK2 hK3 fa hlt6
            unfold batCells baseB at CA OWN RR FA7
            dsimp only at CA OWN RR FA7
            go_wp2_with (at_builtin; refine wpList_push_bat _ rfl (.tmp 87) (.tmp 89) rfl (fun x => KA x ∨ (w3.heap.size ≤ x ∧ x < w4.heap.size)) W.heap.size (.slice ob (catE es).length ocap) (catE es) rfl OWN.out w7.heap.size 1 rfl (baseB b E) (.slice ra4 b.recs.length rcap4) CA.out RR.out rfl (by have := HN7.out; omega) ?hBB ?_)
            case hBB => exact (F7.out.tr FA7.out).size
            intro v8 w8 ho8 hg8 hb8
            rw [← CT.out] at ho8
            obtain ⟨o8, c8, hv8⟩ := ho8.slice
            subst hv8
            have hown := fun x (hx : (Value.slice ob (catE es).length ocap).ownBlock = some x) => (OWN.out.lt hx)
            have hfg : Fr (fun i => (Value.slice ob (catE es).length ocap).ownBlock = some i) (w7.alloc (.cells #[.int .i64 E, .int .i64 b.span, .int .i64 b.prod, .int .i64 b.epoch, .int .i64 b.seq, .slice ra4 b.recs.length rcap4] 36)) w8 := Fr.grown (Fr.refl _ _) hg8 fun x e => .inl e
            have hz7 : (w7.alloc (.cells #[.int .i64 E, .int .i64 b.span, .int .i64 b.prod, .int .i64 b.epoch, .int .i64 b.seq, .slice ra4 b.recs.length rcap4] 36)).heap.size = w7.heap.size + 1 := by simp
            have MX := Lib.hid (show PfMid W w8 lb db mb lim (k + 1) es' L' S' us' fu' F' (.slice o8 (catE es').length c8) safe from ⟨(D7.out.old FA7.out).fr hfg fun i hi e => hi.elim (HK3.out i e).1 (HK3.out i e).2, HU7.out, HZ7.out, by rw [CT.out, List.length_append, List.length_singleton]; have := HN7.out; omega, SF7.out, ⟨_, ho8, fun x hx => by
              have z1 := hfg.size
              have z3 := S67.out
              have z4 := HX6.out
              have z5 := HXB.out
              rcases hx with hx | hx
              · have := HK2.out x hx
                exact ⟨by omega, this.2⟩
              · have := HK6.out x hx
                exact ⟨by omega, this⟩, fun x hx => by
              rcases hb8 with h | h
              · exact HK3.out x (h ▸ hx)
              · rw [h] at hx
                injection hx with hx
                exact ⟨fun h9 => by have := (D7.out.lt (.inl h9)).2; omega, fun h9 => by have := (D7.out.lt (.inr h9)).2; omega⟩⟩, (F7.out.tr FA7.out).trans hfg fun i e => .inr (hown i e).1⟩)
            clear ho8 hg8 hb8 hown hfg hz7 c0 c1 c2 c3 c4 c5 OWN CA RR HK2 HK3 HK6 AL7 D7 F7 FA7 X7 HR7 HR6 M6 HOB SF7
            obtain ⟨q0, q1, q2, q3, q4⟩ := TA.out.old MX.out.fr
            have HSY := Lib.hid (any_sync MX.out.d)
            by_cases hsy : (sy / 2 ^ k).tmod 2 = 1
            · go_wp2_with fail
              refine HSY.out.mono ?_
              rintro e w9 ⟨c9, f9, F9, rfl, hD9, -, hs9, hl9, -, hfr9⟩
              by_cases h9 : c9 = 0
              · subst h9
                have M9 := Lib.hid (show PfMid W w9 lb db mb lim (k + 1) es' L' S' us' f9 F9 (.slice o8 (catE es').length c8) (catE es').length from ⟨hD9, MX.out.us, MX.out.sz, MX.out.len, hl9 rfl _ (Nat.le_refl _), MX.out.al.step hfr9 (fun i h => .inl h) (fun i h => .inl h), MX.out.fr.trans hfr9 fun i hi => .inr (MX.out.d.lt hi).1⟩)
                clear hD9 hs9 hl9 hfr9 HSY
                go_wp2_with fail
                go_roundw
                case rel => exact ⟨k + 1, es', L', S', F9, us', f9, (catE es').length, by go_num, by simp, hlt, M9.out⟩
                case measure => simp [intOf]; omega
              · have h9' : (c9 == 0) = false := by simpa using h9
                have M9 := Lib.hid (show PfMid W w9 lb db mb lim (k + 1) es' L' S' us' f9 F9 (.slice o8 (catE es').length c8) safe from ⟨hD9, MX.out.us, MX.out.sz, MX.out.len, hs9 _ MX.out.sf, MX.out.al.step hfr9 (fun i h => .inl h) (fun i h => .inl h), MX.out.fr.trans hfr9 fun i hi => .inr (MX.out.d.lt hi).1⟩)
                clear hD9 hs9 hl9 hfr9 HSY h9
                go_wp2_with fail
                go_roundw
                case rel => exact ⟨k + 1, es', L', S', F9, us', f9, safe, by go_num, rfl, hlt, M9.out⟩
                case measure => simp [intOf]; omega
            · skip
              clear HSY
              go_wp2_with fail
              go_roundw
              case rel => exact ⟨k + 1, es', L', S', F', us', fu', safe, by go_num, rfl, hlt, MX.out⟩
              case measure => simp [intOf]; omega
          · have ha0 : a = false := by
              cases a with
              | false => rfl
              | true => exact absurd (hac rfl rfl) hc0
            subst ha0
            obtain ⟨h1, h2, h3⟩ := hna rfl
            have CT := Lib.hid (show catE es' = catE es from h1)
            have MX := Lib.hid (show PfMid W w7 lb db mb lim (k + 1) es' L' S' us' fu' F' (.slice ob (catE es).length ocap) safe from ⟨D7.out, by have := M6.out.us; omega, by rw [CT.out]; have := M6.out.sz; omega, by rw [CT.out]; have := M6.out.len; omega, SF7.out, by rw [CT.out]; exact AL7.out, F7.out⟩)
            rw [← CT.out] at MX ⊢
            clear ha hna hca hac hno hfu h1 h2 h3 AL7 D7 F7 X7 HR7 HR6 M6 HOB SF7
            obtain ⟨q0, q1, q2, q3, q4⟩ := TA.out.old MX.out.fr
            have HSY := Lib.hid (any_sync MX.out.d)
            by_cases hsy : (sy / 2 ^ k).tmod 2 = 1
            · go_wp2_with fail
              refine HSY.out.mono ?_
              rintro e w9 ⟨c9, f9, F9, rfl, hD9, -, hs9, hl9, -, hfr9⟩
              by_cases h9 : c9 = 0
              · subst h9
                have M9 := Lib.hid (show PfMid W w9 lb db mb lim (k + 1) es' L' S' us' f9 F9 (.slice ob (catE es').length ocap) (catE es').length from ⟨hD9, MX.out.us, MX.out.sz, MX.out.len, hl9 rfl _ (Nat.le_refl _), MX.out.al.step hfr9 (fun i h => .inl h) (fun i h => .inl h), MX.out.fr.trans hfr9 fun i hi => .inr (MX.out.d.lt hi).1⟩)
                clear hD9 hs9 hl9 hfr9 HSY
                go_wp2_with fail
                go_roundw
                case rel => exact ⟨k + 1, es', L', S', F9, us', f9, (catE es').length, by go_num, rfl, hlt, M9.out⟩
                case measure => simp [intOf]; omega
              · have h9' : (c9 == 0) = false := by simpa using h9
                have M9 := Lib.hid (show PfMid W w9 lb db mb lim (k + 1) es' L' S' us' f9 F9 (.slice ob (catE es').length ocap) safe from ⟨hD9, MX.out.us, MX.out.sz, MX.out.len, hs9 _ MX.out.sf, MX.out.al.step hfr9 (fun i h => .inl h) (fun i h => .inl h), MX.out.fr.trans hfr9 fun i hi => .inr (MX.out.d.lt hi).1⟩)
                clear hD9 hs9 hl9 hfr9 HSY h9
                go_wp2_with fail
                go_roundw
                case rel => exact ⟨k + 1, es', L', S', F9, us', f9, safe, by go_num, rfl, hlt, M9.out⟩
                case measure => simp [intOf]; omega
            · skip
              clear HSY
              go_wp2_with fail
              go_roundw
              case rel => exact ⟨k + 1, es', L', S', F', us', fu', safe, by go_num, rfl, hlt, MX.out⟩
              case measure => simp [intOf]; omega
      · obtain rfl : k = l.length := by omega
        have hkr : KeepR wr ka ks (DkS db mb L) := fun i x h => by
          obtain ⟨a, h1, h2⟩ := HK.out i x h
          have hlt := World.block_lt_of_cell? W _ h2
          rw [add_block] at hlt
          exact ⟨a, h1, M.out.fr.cel h2, fun hd => by have := M.out.d.dl _ hd; omega⟩
        have HC := Lib.hid (crash_any M.out.d.dk M.out.d.ok M.out.d.us ka kc ks hkr)
        clear hkr hk
        go_wp2_with fail
        refine HC.out.mono ?_
        intro e w3 hcp
        obtain ⟨c, F3, ts, rfl, -, hf3, hR, hopen⟩ := crash_inF M.out.d (HST.out.old M.out.fr) (by omega) 5 77 (by omega) (by omega) (by omega) (by omega) hcp
        have hch : ∀ t ∈ ts, Chn t.base t.l := fun t ht => by obtain ⟨q, hs, -⟩ := hR.i.scan t ht; exact hs.at'.2.2
        have hq : catL ts = (catE es).take (catL ts).length := by
          obtain ⟨k0, hk0⟩ := hR.take
          rw [hk0, List.length_take]
          exact List.take_eq_take_min
        have hsq := hR.safe safe M.out.sf
        have hql : (catL ts).length ≤ (catE es).length := by
          rw [hq, List.length_take]
          omega
        obtain ⟨q, hqe⟩ : ∃ q, q = (catL ts).length := ⟨_, rfl⟩
        rw [← hqe] at hq hsq hql
        have HQ := Lib.hid (And.intro hq (And.intro hsq hql))
        have HJ := Lib.hid (trimN_zero hch hR.i.full)
        have hpo := popen_walk (hopen (ssEnd_ge0 hch))
        unfold cfgV pS at hpo
        have HPO := Lib.hid hpo
        have F3' := Lib.hid (M.out.fr.trans hf3 fun i hi => .inr (M.out.d.dl i hi))
        have AL3 := Lib.hid (M.out.al.step (S' := S) (L' := L) (hf3.mono fun i h => .inl (.inr h)) (fun i h => .inl h) fun i h => .inl h)
        clear hcp hf3 hR hopen hpo hch hq hsq hql hqe HC q0 q1 q2 q3 q4
        go_wp2_with fail
        refine HPO.out.mono ?_
        rintro e w10 ⟨lb2, j2, es2, own2, L3, S3, u3, F4, rfl, hd10, hsg10, hj2, how2, hls10, hot10, hS10, hDk10, hf10⟩
        have hj0 : j2 = 0 := by rw [hj2]; exact HJ.out
        subst hj0
        rw [List.drop_zero] at hd10
        have hcat10 : catE es2 = (catE es).take q := by
          unfold catE
          rw [hsg10]
          exact HQ.out.1
        have CAT10 := Lib.hid hcat10
        have F10 := Lib.hid (F3'.out.trans hf10 fun i hi => .inr (M.out.d.dl i hi))
        have AL10 := Lib.hid (AL3.out.step (S' := S) (L' := L) (hf10.mono fun i h => .inl (.inr h)) (fun i h => .inl h) fun i h => .inl h)
        have HRD := Lib.hid (lread_walk hd10 (HST.out.old F10.out) 0 1000000)
        have COK := Lib.hid hd10.cat_ok
        have HBE := Lib.hid hd10.be
        clear hd10 hsg10 hj2 how2 hls10 hot10 hS10 hDk10 hf10 hcat10 HPO AL3 F3'
        go_wp2_with fail
        refine HRD.out.mono ?_
        rintro e w11 hp
        have hsum : sumB (catE es2) ≤ 160680 := by
          rw [CAT10.out]
          have h1 := sumB_take_all (catE es) q
          have h2 := M.out.sz
          omega
        have hpk : pick 0 1000000 (catE es2) 0 [] = (catE es).take q := by
          rw [pick_all 0 1000000 (catE es2) 0 [] (fun b hb => by have := (COK.out b hb).base0; have := (COK.out b hb).span0; omega) (by omega), List.nil_append, CAT10.out]
        have hlq : ((catE es).take q).length = q := by rw [List.length_take]; have := HQ.out.2.2; omega
        have hp' : ∃ oa1 cap1, e = .returned (.tuple #[.slice oa1 q cap1, .int .i64 0]) ∧ BatsR (fun b => w10.heap.size ≤ b) w11 (.slice oa1 q cap1) ((catE es).take q) ∧ Fr (fun _ => False) w10 w11 := by
          rcases hp with ⟨h, -⟩ | ⟨-, -, v, rfl, hv, hcap, hf⟩
          · exfalso
            have := HBE.out
            omega
          · rw [hpk] at hv
            have hv2 := hv
            obtain ⟨oa1, cap1, rfl, -⟩ := hv2
            rw [hlq] at hv ⊢
            exact ⟨oa1, cap1, rfl, hv, hf⟩
        obtain ⟨oa1, cap1, rfl, hv1, hf11⟩ := hp'
        have F11 := Lib.hid (F10.out.tr hf11)
        have AL11 := Lib.hid (AL10.out.old hf11)
        obtain ⟨KA, hK1, hK2, hK3⟩ := AL11.out
        have hra : BatsR (fun _ => True) w11 (.slice ob q ocap) ((catE es).take q) := bats_take (hK1.reads (fun _ _ _ => trivial) fun _ _ _ => trivial) HQ.out.2.2
        have HSM := Lib.hid (same_bats _ _ ((catE es).take q) _ _ _ hv1 hra (by rw [hlq]; have := HQ.out.2.2; have := M.out.len; omega) (small_ok fun b hb => COK.out b (by rw [CAT10.out]; exact hb)))
        have hcp : (catE es).length ≤ ocap := hK1.cap _ _ _ rfl
        have z1 : ¬ (q : Int) < safe := by have := HQ.out.2.1; omega
        have hqc := HQ.out.2.2
        have z2 : ¬ ((catE es).length : Int) < q := by omega
        have z3 : q ≤ ocap := by omega
        clear hp hsum hpk hlq hv1 hf11 hK1 hK2 hK3 hra HRD
        go_wp2_with fail
        refine HSM.out.mono ?_
        rintro e w12 ⟨rfl, hf12⟩
        have F12 := Lib.hid (F11.out.tr hf12)
        clear hf12 HSM
        go_wp2_with fail
        refine (plive_walk _ (HST.out.old F12.out) (Nat.le_trans hw0 (FA.out.tr F12.out).size)).mono ?_
        rintro e w13 ⟨rfl, hf13⟩
        have F13 := Lib.hid (FA.out.tr (F12.out.tr hf13))
        clear hf13
        go_wp2_with fail
        go_ret
        exact ⟨rfl, F13.out⟩
end
end Go.Proofs.YtdlnafhhkpklmaaGreatDoor
