/- Crash of a disk of many files: the walk. -/
import Derived.Test.YtdlnafhhkpklmaaGreatDoorY34
namespace Go.Proofs.YtdlnafhhkpklmaaGreatDoor
open Go.RowKit Go.Fm Go.BigFrame Go.Maps Go.Shelf
set_option linter.unusedVariables false
set_option linter.unusedSimpArgs false
set_option maxRecDepth 100000
/-- How many bytes files have. -/
def usd (L : List Row) (F : ByteArray → ByteArray × Nat) : Nat := (L.map fun r => (F r.1).1.size).sum
theorem usd_congr {F F' : ByteArray → ByteArray × Nat} : ∀ {L : List Row}, (∀ r ∈ L, (F' r.1).1.size = (F r.1).1.size) → usd L F' = usd L F
 | [], _ => rfl
 | x :: l, h => by
  have ih := usd_congr (L := l) fun r hr => h r (List.mem_cons_of_mem _ hr)
  unfold usd at ih ⊢
  rw [List.map_cons, List.map_cons, List.sum_cons, List.sum_cons, ih, h x List.mem_cons_self]
theorem usd_upd {F : ByteArray → ByteArray × Nat} {nm t : ByteArray} {n : Nat} : ∀ {L : List Row}, (L.map (·.1)).Nodup → (∃ r ∈ L, r.1 = nm) → usd L (updF F nm t n) + (F nm).1.size = usd L F + t.size
 | [], _, h => by obtain ⟨r, hr, -⟩ := h; cases hr
 | x :: l, hn, h => by
  rw [List.map_cons, List.nodup_cons] at hn
  by_cases e : x.1 = nm
  ·have hl : usd l (updF F nm t n) = usd l F := usd_congr fun r hr => by
    rw [updF_ne]
    intro e2
    exact hn.1 (List.mem_map.2 ⟨r, hr, by rw [e2, e]⟩)
   unfold usd at hl ⊢
   rw [List.map_cons, List.map_cons, List.sum_cons, List.sum_cons, hl, e, updF_same]
   simp only
   omega
  ·have ih := usd_upd (F := F) (nm := nm) (t := t) (n := n) (L := l) hn.2 (by
    obtain ⟨r, hr, e2⟩ := h
    rcases List.mem_cons.1 hr with rfl | hr
    ·exact absurd e2 e
    ·exact ⟨r, hr, e2⟩)
   unfold usd at ih ⊢
   rw [List.map_cons, List.map_cons, List.sum_cons, List.sum_cons, updF_ne e]
   omega
theorem usd_mem {F : ByteArray → ByteArray × Nat} : ∀ {L : List Row} {r : Row}, r ∈ L → (F r.1).1.size ≤ usd L F
 | [], _, h => by cases h
 | x :: l, r, h => by
  unfold usd
  rw [List.map_cons, List.sum_cons]
  rcases List.mem_cons.1 h with rfl | h
  ·omega
  ·have := usd_mem (F := F) h
   unfold usd at this
   omega
theorem add_blk (a : Addr) (k : Nat) : (a.add k).block = a.block := by unfold Addr.add; split <;> rfl
theorem keyC_map (l : List ByteArray) : l.flatMap keyC = l.map Value.string := by
 induction l with
 | nil => rfl
 | cons a l ih => rw [List.flatMap_cons, ih]; rfl
/-- What is kept of files behind a crash. -/
def CrashF (F F' : ByteArray → ByteArray × Nat) (P : ByteArray → Prop) : Prop :=
 ∀ nm, (P nm → ∃ n, (F nm).2 ≤ n ∧ n ≤ (F nm).1.size ∧ F' nm = ((F nm).1.extract 0 n, n)) ∧ (¬ P nm → F' nm = F nm)
def KeepR (w : World) (oa : Option Addr) (ks : List Int) (S : Nat → Prop) : Prop := ∀ (i : Nat) (x : Int), ks[i]? = some x → ∃ a, oa = some a ∧ w.cell? (a.add i) = some (.int .i64 x) ∧ ¬ S a.block
theorem CrashF.step {F F' F2 : ByteArray → ByteArray × Nat} {l : List ByteArray} {k : Nat} {nm : ByteArray} (h : CrashF F F' (· ∈ l.take k)) (hk : l[k]? = some nm) (hn : l.Nodup) {n : Nat} (h1 : (F nm).2 ≤ n) (h2 : n ≤ (F nm).1.size)
  (h3 : F2 nm = ((F nm).1.extract 0 n, n)) (h4 : ∀ x, x ≠ nm → F2 x = F' x) : CrashF F F2 (· ∈ l.take (k + 1)) := by
 have ht : l.take (k + 1) = l.take k ++ [nm] := take_snoc' hk
 have hnew : nm ∉ l.take k := fun hx => by
  rw [List.nodup_iff_pairwise_ne] at hn
  obtain ⟨j, hj⟩ := List.getElem?_of_mem hx
  rw [List.getElem?_take] at hj
  split at hj
  ·rename_i hjk
   have hkl := (List.getElem?_eq_some_iff.1 hk)
   have hjl := (List.getElem?_eq_some_iff.1 hj)
   obtain ⟨a1, a2⟩ := hkl
   obtain ⟨b1, b2⟩ := hjl
   exact List.pairwise_iff_getElem.1 hn j k b1 a1 hjk (by rw [a2, b2])
  ·cases hj
 intro x
 rw [ht]
 by_cases e : x = nm
 ·subst e
  exact ⟨fun _ => ⟨n, h1, h2, h3⟩, fun hx => absurd (List.mem_append.2 (.inr (by simp))) hx⟩
 ·refine ⟨fun hx => ?_, fun hx => ?_⟩
  ·rcases List.mem_append.1 hx with hx | hx
   ·obtain ⟨m, g1, g2, g3⟩ := (h x).1 hx
    exact ⟨m, g1, g2, by rw [h4 x e, g3]⟩
   ·exact absurd (by simpa using hx) e
  ·rw [h4 x e]
   exact (h x).2 fun hx2 => hx (List.mem_append.2 (.inl hx2))
theorem CrashF.fresh {F F' : ByteArray → ByteArray × Nat} {l : List ByteArray} {k : Nat} {nm : ByteArray} (h : CrashF F F' (· ∈ l.take k)) (hk : l[k]? = some nm) (hn : l.Nodup) : F' nm = F nm := by
 refine (h nm).2 fun hx => ?_
 rw [List.nodup_iff_pairwise_ne] at hn
 obtain ⟨j, hj⟩ := List.getElem?_of_mem hx
 rw [List.getElem?_take] at hj
 split at hj
 ·rename_i hjk
  obtain ⟨a1, a2⟩ := (List.getElem?_eq_some_iff.1 hk)
  obtain ⟨b1, b2⟩ := (List.getElem?_eq_some_iff.1 hj)
  exact List.pairwise_iff_getElem.1 hn j k b1 a1 hjk (by rw [a2, b2])
 ·cases hj
section
variable {w w' : World} {db mb : Nat} {room used fuse : Int} {L : List Row} {F : ByteArray → ByteArray × Nat}
def CrashPost (w : World) (db mb : Nat) (room : Int) (L : List Row) (F : ByteArray → ByteArray × Nat) (e : Ending) (w' : World) : Prop :=
 ∃ (c : Nat) (F' : ByteArray → ByteArray × Nat), e = .returned (.int .i64 c) ∧ c ≤ L.length ∧ Dk w' db mb room (usd L F') (-1) L F' ∧ (∀ r ∈ L, ∃ n, (F r.1).2 ≤ n ∧ n ≤ (F r.1).1.size ∧ F' r.1 = ((F r.1).1.extract 0 n, n)) ∧ Fr (DkS db mb L) w w'
set_option maxHeartbeats 16000000 in
theorem crash_any (h : Dk w db mb room used fuse L F) (ho : DkOK room used fuse L F) (hu : used = usd L F) (ka : Option Addr) (kc : Nat) (ks : List Int) (hk : KeepR w ka ks (DkS db mb L)) :
  Calls Tryz.prog 21 #[.pointer (some ⟨db, 0, none⟩), .slice ka ks.length kc] w (CrashPost w db mb room L F) := by
 have c3 : w.cell? ⟨db, 3, none⟩ = some (.map (some mb)) := (cell_of h.d 3).trans rfl
 have hu1 := ho.u1
 rw [hu] at hu1
 have hfs := ho.fs
 have H := Lib.hid h
 have HK := Lib.hid hk
 have HU := Lib.hid hu
 have HFS := Lib.hid hfs
 have HU1 := Lib.hid hu1
 clear h hk hu hu1 hfs ho
 go_enter Tryz.func21, Tryz.ntmps21
 go_wp2_with fail
 refine (keysSeq_walk mb _).mono ?_
 rintro e w1 ⟨rfl, hw⟩
 have H1 := H.out.old (w' := w1) (by rw [hw]; exact (Fr.same w).alloc _)
 have C1 : w1.cell? ⟨w.heap.size, 0, none⟩ = some (.map (some mb)) := by rw [hw]; exact cell_alloc_new _ _ _ 0
 have F1 : Fr (fun _ => False) w w1 := by rw [hw]; exact (Fr.same w).alloc _
 have HS := Lib.hid (sorted_any w.heap.size mb L w1 C1 H1.m (by have := H1.sz; omega))
 have H1 := Lib.hid H1
 have F1 := Lib.hid F1
 clear hw c3 C1
 go_wp2_with fail
 refine HS.out.mono ?_
 rintro e w2 ⟨v, rfl, ho, hf⟩
 rw [List.length_map, keyC_map] at ho
 obtain ⟨ns, hns⟩ : ∃ ns, ns = sortB (L.map (·.1)) := ⟨_, rfl⟩
 rw [← hns] at ho
 have hperm : ns.Perm (L.map (·.1)) := by rw [hns]; exact sortB_perm _
 have hnl : ns.length = L.length := by rw [hperm.length_eq, List.length_map]
 have hnd : ns.Nodup := hperm.nodup_iff.2 H.out.m.1.nodup
 obtain ⟨oa, cap, rfl, hoa⟩ := own_at ho
 have hnm : ∀ k nm, ns[k]? = some nm → ∃ a, oa = some a ∧ w2.cell? (a.add k) = some (.string nm) ∧ ¬ DkS db mb L a.block ∧ ∃ fb, getL L nm = some fb := fun k nm hx => by
  have hlt := (List.getElem?_eq_some_iff.1 hx).1
  obtain ⟨g, rfl, hob, hBg, hcells⟩ := hoa (by omega)
  refine ⟨_, rfl, by have h7 := hcells k (.string nm) (by rw [List.getElem?_map, hx]; rfl); rw [show (⟨g, 0, none⟩ : Addr).add k = ⟨g, k, none⟩ by unfold Addr.add; split <;> simp_all]; exact h7, fun hd => ?_, ?_⟩
  ·have h8 := H1.out.lt hd
   dsimp only at h8
   omega
  ·obtain ⟨r, hr, e⟩ := List.mem_map.1 (hperm.mem_iff.1 (List.mem_of_getElem? hx))
   exact ⟨r.2, by rw [← e]; exact getL_mem H.out.m.1.nodup hr⟩
 have NM := Lib.hid hnm
 have NL := Lib.hid hnl
 have ND := Lib.hid hnd
 have PM := Lib.hid hperm
 have H2 := Lib.hid (H1.out.old hf)
 have F2 := Lib.hid ((F1.out.tr hf).mono (S' := DkS db mb L) fun i h => h.elim)
 clear hf H1 F1 ho hns hoa hnm hnl hnd hperm HS
 rw [HU.out] at H2
 go_wp2_with fail
 go_loopw [5, 19] (fun c i wr => ∃ (k m : Nat) (F' : ByteArray → ByteArray × Nat), i = .int .i64 k ∧ c = .int .i64 m ∧ k ≤ L.length ∧ m ≤ k ∧ Dk wr db mb room (usd L F') fuse L F' ∧ CrashF F F' (· ∈ ns.take k) ∧ usd L F' ≤ usd L F ∧ Fr (DkS db mb L) w2 wr) (fun _ i _ => L.length - (intOf i).toNat)
 case atStart => exact ⟨0, 0, F, rfl, rfl, Nat.zero_le _, Nat.le_refl _, H2.out, fun nm => ⟨fun h => (by simp at h), fun _ => rfl⟩, Nat.le_refl _, Fr.refl _ _⟩
 case round =>
  obtain ⟨k, m, F', rfl, rfl, hkl, hmk, hd, hcf, hul, hf⟩ := hrel
  have D := Lib.hid hd
  have CF := Lib.hid hcf
  have FR := Lib.hid hf
  clear hd hcf hf
  have hsz := H.out.sz
  rcases Nat.lt_or_ge k L.length with hlt | hge
  ·obtain ⟨nm, hnm⟩ := get_of_lt (l := ns) (by rw [NL.out]; exact hlt)
   obtain ⟨a, rfl, hc, hnd, fb, hg⟩ := NM.out k nm hnm
   have hc1 := FR.out.cell hc (by rw [add_blk]; exact hnd)
   have hF := CF.out.fresh hnm ND.out
   have hmm := getL_some hg
   obtain ⟨hs1, hs2⟩ := HFS.out _ hmm
   dsimp only at hs1 hs2
   have hnk : nm.size ≤ maxLen := D.out.m.1.ok _ hmm
   have hlook := D.out.m.look1 hnk
   rw [hg] at hlook
   simp only [boxV, ptrV] at hlook
   have hob := D.out.f _ hmm
   dsimp only at hob
   rw [hF] at hob
   obtain ⟨t, ht⟩ : ∃ t, t = (F nm).1 := ⟨_, rfl⟩
   obtain ⟨q, hq⟩ : ∃ q, q = (F nm).2 := ⟨_, rfl⟩
   rw [← ht] at hs1 hs2 hob
   rw [← hq] at hs2 hob
   have hFt : F nm = (t, q) := by rw [ht, hq]
   have c3 : wr.cell? ⟨db, 3, none⟩ = some (.map (some mb)) := (cell_of D.out.d 3).trans rfl
   have d0 : wr.cell? ⟨fb, 0, none⟩ = some (.string t) := (cell_of hob 0).trans rfl
   have d1 : wr.cell? ⟨fb, 1, none⟩ = some (.int .i64 q) := (cell_of hob 1).trans rfl
   have HN := Lib.hid hnm
   have HG := Lib.hid hg
   have HF := Lib.hid hF
   have HFT := Lib.hid hFt
   have HOB := Lib.hid hob
   have HMM := Lib.hid hmm
   clear hnm hc hnd hg hF hob hmm ht hq hFt
   go_wp2_with fail
   go_quiet (fail)
   clear d0 d1 hlook c3 hc1
   have D3 := Lib.hid (D.out.drewN nq)
   have F3 := Lib.hid (FR.out.drewN nq)
   have hob : (wr.drewN nq).heap[fb]? = some (fileObj t q) := HOB.out
   have HOB := Lib.hid hob
   generalize wr.drewN nq = w3 at *
   clear D FR hob
   by_cases hms : q = t.size
   ·have he : ((q : Int) == (t.size : Int)) = true := by simp [hms]
    have hcf : CrashF F F' (· ∈ ns.take (k + 1)) := CF.out.step HN.out ND.out (n := t.size) (by rw [HFT.out]; exact Nat.le_of_eq hms) (by rw [HFT.out]; exact Nat.le_refl _) (by
     rw [HF.out, HFT.out, hms]
     simp only [ByteArray.extract_zero_size]) (fun x _ => rfl)
    have CF2 := Lib.hid hcf
    clear hcf CF
    go_wp2_with fail
    go_roundw
    case rel => exact ⟨k + 1, m, F', by go_num, rfl, by omega, by omega, D3.out, CF2.out, hul, F3.out⟩
    case measure => simp [intOf]; omega
   ·have he : ((q : Int) == (t.size : Int)) = false := by simpa using (by omega : ¬ (q : Int) = t.size)
    have hqlt : q < t.size := by omega
    clear hms
    by_cases hmk2 : m < ks.length
    ·have d0 : w3.cell? ⟨fb, 0, none⟩ = some (.string t) := (cell_of HOB.out 0).trans rfl
     have d1 : w3.cell? ⟨fb, 1, none⟩ = some (.int .i64 q) := (cell_of HOB.out 1).trans rfl
     obtain ⟨x, hx⟩ := get_of_lt (l := ks) hmk2
     obtain ⟨b, rfl, hkc, hkn⟩ := HK.out m x hx
     have hk3 : w3.cell? (b.add m) = some (.int .i64 x) := (F2.out.trans F3.out fun i h => .inl h).cell hkc (by rw [add_blk]; exact hkn)
     obtain ⟨N, hNle, hNm, hKi⟩ : ∃ N : Nat, N ≤ t.size ∧ q ≤ N ∧ min (max x 0) ((t.size : Int) - q) = (N : Int) - q := ⟨q + min x.toNat (t.size - q), by omega, by omega, by omega⟩
     have HKI := Lib.hid hKi
     clear hkc hkn hKi
     go_wp2_with fail
     go_quiet (fail)
     clear d0 d1 hk3
     rw [HKI.out]
     have D4 := Lib.hid (D3.out.drewN nq)
     have F4 := Lib.hid (F3.out.drewN nq)
     have hob : (w3.drewN nq).heap[fb]? = some (fileObj t q) := HOB.out
     clear D3 F3 HOB
     generalize w3.drewN nq = w4 at *
     have HOB := Lib.hid hob
     have d1 : w4.cell? ⟨fb, 1, none⟩ = some (.int .i64 q) := (cell_of hob 1).trans rfl
     have e1 : (q : Int) + ((N : Int) - q) = N := by omega
     clear hob
     have HFN : F' nm = (t, q) := by rw [HF.out, HFT.out]
     have HKW := Lib.hid (keep_walk D4.out nm HG.out t q N HFN hNle hs1 (by omega) (by have := HU1.out; omega) (by omega))
     have HNN := Lib.hid (⟨hNle, hNm⟩ : _ ∧ _)
     have HFN := Lib.hid HFN
     go_wp2_with fail
     refine HKW.out.mono ?_
     rintro e w5 ⟨rfl, hd, hf⟩
     have hup := usd_upd (F := F') (nm := nm) (t := t.extract 0 N) (n := N) D4.out.m.1.nodup ⟨_, HMM.out, rfl⟩
     obtain ⟨t', ht'⟩ : ∃ t', t' = t.extract 0 N := ⟨_, rfl⟩
     have hsz' : t'.size = N := by rw [ht', ByteArray.size_extract]; omega
     rw [← ht'] at hd hup
     rw [HFN.out] at hup
     dsimp only at hup
     have D5 := Lib.hid hd
     have F5 := Lib.hid (F4.out.trans hf fun i e => .inl e)
     have HT := Lib.hid ht'
     have HSZ := Lib.hid hsz'
     have HUP := Lib.hid hup
     clear hd hf d1 D4 F4 hup ht' hsz' HKW HOB
     have hob := D5.out.f _ HMM.out
     dsimp only at hob
     rw [updF_same] at hob
     dsimp only at hob
     have d0 : w5.cell? ⟨fb, 0, none⟩ = some (.string t') := (cell_of hob 0).trans rfl
     have d1 : w5.cell? ⟨fb, 1, none⟩ = some (.int .i64 (min q N : Nat)) := (cell_of hob 1).trans rfl
     have f1 := fz_of hob 1
     have hfr : Fr (fun i => i = fb) w5 (w5.setCell ⟨fb, 1, none⟩ (.int .i64 (t'.size : Nat))) := Fr.setCell (S := fun i => i = fb) (p := ⟨fb, 1, none⟩) (Fr.refl _ _) (.inl rfl) _
     have D6 := D5.out.setFile HG.out _ (t := t') (n := t'.size) (by rw [heap_setCell_self hob]; rfl) hfr
     have D6 := D6.congr (F' := updF F' nm t' N) fun r hr => by
      unfold updF
      split
      ·rw [HSZ.out]
      ·rfl
     have hun : (usd L (updF F' nm t' N) : Int) = (usd L F' : Int) - ((t.size : Int) - (N : Nat)) := by
      have h1 := HUP.out
      have h2 := HSZ.out
      have h3 : usd L (updF F' nm t' N) = usd L (updF F' nm t' N) := rfl
      omega
     rw [← hun] at D6
     have F6 := Lib.hid (F5.out.trans hfr fun i e => .inl (.inr (.inr ⟨_, HMM.out, e.symm⟩)))
     have D6 := Lib.hid D6
     have hul2 : usd L (updF F' nm t' N) ≤ usd L F := by
      have h8 := HNN.out.1
      omega
     have hcf : CrashF F (updF F' nm t' N) (· ∈ ns.take (k + 1)) := CF.out.step HN.out ND.out (n := N) (by rw [HFT.out]; exact HNN.out.2) (by rw [HFT.out]; exact HNN.out.1) (by rw [updF_same, HFT.out, HT.out]) (fun x hx => updF_ne hx)
     have CF2 := Lib.hid hcf
     have hsz2 : t'.size ≤ 1000000000 := by rw [HSZ.out]; have := HNN.out.1; omega
     clear D5 F5 hob hfr hcf CF hun
     go_wp2_with fail
     go_roundw
     case rel => exact ⟨k + 1, m + 1, _, by go_num, by go_num, by omega, by omega, D6.out, CF2.out, hul2, F6.out⟩
     case measure => simp [intOf]; omega
    ·have d0 : w3.cell? ⟨fb, 0, none⟩ = some (.string t) := (cell_of HOB.out 0).trans rfl
     have d1 : w3.cell? ⟨fb, 1, none⟩ = some (.int .i64 q) := (cell_of HOB.out 1).trans rfl
     obtain ⟨N, rfl⟩ : ∃ N : Nat, N = q := ⟨_, rfl⟩
     have hNle : N ≤ t.size := by omega
     have hNm : N ≤ N := Nat.le_refl _
     have D4 := D3
     have F4 := F3
     clear D3 F3 d0
     generalize hw34 : w3 = w4 at *
     clear hw34
     have e1 : (N : Int) + 0 = N := by omega
     have HFN : F' nm = (t, N) := by rw [HF.out, HFT.out]
     have HKW := Lib.hid (keep_walk D4.out nm HG.out t N N HFN hNle hs1 (by omega) (by have := HU1.out; omega) (by omega))
     have HNN := Lib.hid (⟨hNle, hNm⟩ : _ ∧ _)
     have HFN := Lib.hid HFN
     go_wp2_with fail
     refine HKW.out.mono ?_
     rintro e w5 ⟨rfl, hd, hf⟩
     have hup := usd_upd (F := F') (nm := nm) (t := t.extract 0 N) (n := N) D4.out.m.1.nodup ⟨_, HMM.out, rfl⟩
     obtain ⟨t', ht'⟩ : ∃ t', t' = t.extract 0 N := ⟨_, rfl⟩
     have hsz' : t'.size = N := by rw [ht', ByteArray.size_extract]; omega
     rw [← ht'] at hd hup
     rw [HFN.out] at hup
     dsimp only at hup
     have D5 := Lib.hid hd
     have F5 := Lib.hid (F4.out.trans hf fun i e => .inl e)
     have HT := Lib.hid ht'
     have HSZ := Lib.hid hsz'
     have HUP := Lib.hid hup
     clear hd hf d1 D4 F4 hup ht' hsz' HKW HOB
     have hob := D5.out.f _ HMM.out
     dsimp only at hob
     rw [updF_same] at hob
     dsimp only at hob
     have d0 : w5.cell? ⟨fb, 0, none⟩ = some (.string t') := (cell_of hob 0).trans rfl
     have d1 : w5.cell? ⟨fb, 1, none⟩ = some (.int .i64 (min N N : Nat)) := (cell_of hob 1).trans rfl
     have f1 := fz_of hob 1
     have hfr : Fr (fun i => i = fb) w5 (w5.setCell ⟨fb, 1, none⟩ (.int .i64 (t'.size : Nat))) := Fr.setCell (S := fun i => i = fb) (p := ⟨fb, 1, none⟩) (Fr.refl _ _) (.inl rfl) _
     have D6 := D5.out.setFile HG.out _ (t := t') (n := t'.size) (by rw [heap_setCell_self hob]; rfl) hfr
     have D6 := D6.congr (F' := updF F' nm t' N) fun r hr => by
      unfold updF
      split
      ·rw [HSZ.out]
      ·rfl
     have hun : (usd L (updF F' nm t' N) : Int) = (usd L F' : Int) - ((t.size : Int) - (N : Nat)) := by
      have h1 := HUP.out
      have h2 := HSZ.out
      have h3 : usd L (updF F' nm t' N) = usd L (updF F' nm t' N) := rfl
      omega
     rw [← hun] at D6
     have F6 := Lib.hid (F5.out.trans hfr fun i e => .inl (.inr (.inr ⟨_, HMM.out, e.symm⟩)))
     have D6 := Lib.hid D6
     have hul2 : usd L (updF F' nm t' N) ≤ usd L F := by
      have h8 := HNN.out.1
      omega
     have hcf : CrashF F (updF F' nm t' N) (· ∈ ns.take (k + 1)) := CF.out.step HN.out ND.out (n := N) (by rw [HFT.out]; exact HNN.out.2) (by rw [HFT.out]; exact HNN.out.1) (by rw [updF_same, HFT.out, HT.out]) (fun x hx => updF_ne hx)
     have CF2 := Lib.hid hcf
     have hsz2 : t'.size ≤ 1000000000 := by rw [HSZ.out]; have := HNN.out.1; omega
     clear D5 F5 hob hfr hcf CF hun
     go_wp2_with fail
     go_roundw
     case rel => exact ⟨k + 1, m + 1, _, by go_num, by go_num, by omega, by omega, D6.out, CF2.out, hul2, F6.out⟩
     case measure => simp [intOf]; omega
  ·have c2 : wr.cell? ⟨db, 2, none⟩ = some (.int .i64 fuse) := (cell_of D.out.d 2).trans rfl
   have f2 := fz_of D.out.d 2
   have hfr : Fr (fun i => i = db) wr (wr.setCell ⟨db, 2, none⟩ (.int .i64 (-1))) := Fr.setCell (S := fun i => i = db) (p := ⟨db, 2, none⟩) (Fr.refl _ _) (.inl rfl) _
   have D3 := Lib.hid (D.out.setNum _ (room' := room) (used' := usd L F') (fuse' := -1) (by rw [heap_setCell_self D.out.d]; rfl) hfr)
   have F3 := Lib.hid (F2.out.trans (FR.out.trans hfr fun i e => .inl (.inl e)) fun i h => .inl h)
   clear hfr
   go_wp2_with fail
   go_ret
   refine ⟨m, F', rfl, by omega, D3.out, fun r hr => ?_, F3.out⟩
   refine (CF.out r.1).1 ?_
   have hk2 : k = ns.length := by rw [NL.out]; omega
   rw [hk2, List.take_length]
   exact PM.out.mem_iff.2 (List.mem_map.2 ⟨r, hr, rfl⟩)
end
end Go.Proofs.YtdlnafhhkpklmaaGreatDoor
