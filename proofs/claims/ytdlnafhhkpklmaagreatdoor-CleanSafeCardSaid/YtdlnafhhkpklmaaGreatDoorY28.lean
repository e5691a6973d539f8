/- A disk that is down; Append, Sync, Read, Cut of a disk by one contract each. -/
import Derived.Test.YtdlnafhhkpklmaaGreatDoorY25
namespace Go.Proofs.YtdlnafhhkpklmaaGreatDoor
open Go.RowKit Go.Fm Go.BigFrame Go.Shelf Go.Maps
set_option linter.unusedVariables false
set_option linter.unusedSimpArgs false
set_option maxRecDepth 100000
section
variable {w w' : World} {db mb : Nat} {room used : Int} {L : List Row} {F : ByteArray → ByteArray × Nat}
theorem asked_down (h : Dk w db mb room used 0 L F) : Calls Tryz.prog 105 #[.pointer (some ⟨db, 0, none⟩)] w fun e w' => e = .returned (.int .i64 7) ∧ w' = w := by
 have c2 : w.cell? ⟨db, 2, none⟩ = some (.int .i64 0) := (cell_of h.d 2).trans rfl
 clear h
 go_enter Tryz.func105, Tryz.ntmps105
 go_wp2_with fail
 go_ret
 exact ⟨rfl, rfl⟩
theorem file_down (h : Dk w db mb room used 0 L F) (nm : ByteArray) : Calls Tryz.prog 103 #[.pointer (some ⟨db, 0, none⟩), .string nm] w fun e w' => e = .returned (.tuple #[.pointer none, .int .i64 7]) ∧ w' = w := by
 have H := Lib.hid h
 clear h
 go_enter Tryz.func103, Tryz.ntmps103
 go_wp2_with fail
 refine (asked_down H.out).mono ?_
 rintro e w' ⟨rfl, rfl⟩
 go_wp2_with fail
 go_ret2
 exact ⟨rfl, rfl⟩
theorem dread_down (h : Dk w db mb room used 0 L F) (nm : ByteArray) : Calls Tryz.prog 73 #[.pointer (some ⟨db, 0, none⟩), .string nm] w fun e w' => e = .returned (.tuple #[.string ByteArray.empty, .int .i64 7]) ∧ w' = w := by
 have HC := Lib.hid (file_down h nm)
 clear h
 go_enter Tryz.func73, Tryz.ntmps73
 go_wp2_with fail
 refine HC.out.mono ?_
 rintro e w' ⟨rfl, rfl⟩
 go_wp2_with fail
 go_ret2
 exact ⟨rfl, rfl⟩
theorem dsync_down (h : Dk w db mb room used 0 L F) (nm : ByteArray) : Calls Tryz.prog 86 #[.pointer (some ⟨db, 0, none⟩), .string nm] w fun e w' => e = .returned (.int .i64 7) ∧ w' = w := by
 have HC := Lib.hid (file_down h nm)
 clear h
 go_enter Tryz.func86, Tryz.ntmps86
 go_wp2_with fail
 refine HC.out.mono ?_
 rintro e w' ⟨rfl, rfl⟩
 go_wp2_with fail
 go_ret
 exact ⟨rfl, rfl⟩
theorem dappend_down (h : Dk w db mb room used 0 L F) (nm s : ByteArray) : Calls Tryz.prog 84 #[.pointer (some ⟨db, 0, none⟩), .string nm, .string s] w fun e w' => e = .returned (.int .i64 7) ∧ w' = w := by
 have H := Lib.hid h
 clear h
 go_enter Tryz.func84, Tryz.ntmps84
 go_wp2_with fail
 refine (asked_down H.out).mono ?_
 rintro e w' ⟨rfl, rfl⟩
 go_wp2_with fail
 go_ret
 exact ⟨rfl, rfl⟩
end
/-- What a file holds: its bytes, how many of them are safe; of none: nothing. -/
def curF (L : List Row) (F : ByteArray → ByteArray × Nat) (nm : ByteArray) : ByteArray × Nat := match getL L nm with
 | some _ => F nm
 | none => (ByteArray.empty, 0)
/-- A disk's numbers are sound. -/
structure DkOK (room used fuse : Int) (L : List Row) (F : ByteArray → ByteArray × Nat) : Prop where
 u0 : 0 ≤ used
 u1 : used ≤ 1000000000
 fw : (Lit.int .i64 fuse).wf = true
 fs : ∀ r ∈ L, (F r.1).1.size ≤ 1000000000 ∧ (F r.1).2 ≤ (F r.1).1.size
/-- Behind a change of one file. -/
def DkPost (w : World) (db mb : Nat) (room used fuse : Int) (L : List Row) (F : ByteArray → ByteArray × Nat) (nm : ByteArray) (t : ByteArray) (n : Nat) (w' : World) : Prop :=
 ∃ L', Dk w' db mb room used fuse L' (updF F nm t n) ∧ ((∃ fb, getL L nm = some fb) → L' = L) ∧ (getL L nm = none → ∃ fb, L' = putR L nm fb) ∧ (∀ i, DkS db mb L' i → DkS db mb L i ∨ (w.heap.size ≤ i ∧ i < w'.heap.size)) ∧ Fr (DkS db mb L) w w'
def appCode (room used fuse : Int) (n : Nat) : Int := if fuse = 0 then 7 else if room < used + n then 5 else 0
def DAppPost (w : World) (db mb : Nat) (room used fuse : Int) (L : List Row) (F : ByteArray → ByteArray × Nat) (nm s : ByteArray) (e : Ending) (w' : World) : Prop :=
 e = .returned (.int .i64 (appCode room used fuse s.size)) ∧ (appCode room used fuse s.size = 0 → DkPost w db mb room (used + s.size) (burn fuse) L F nm ((curF L F nm).1 ++ s) (curF L F nm).2 w') ∧ (appCode room used fuse s.size ≠ 0 → Fr (fun _ => False) w w')
theorem getL_put_row {L : List Row} {nm : ByteArray} {fb : Nat} (hg : getL L nm = none) : putR L nm fb = (nm, fb) :: L := by
 have hall : L.filter (fun r => r.1 ≠ nm) = L := List.filter_eq_self.2 fun r hr => by simpa using getL_none hg r hr
 unfold putR; rw [hall]
theorem dappend_any {w : World} {db mb : Nat} {room used fuse : Int} {L : List Row} {F : ByteArray → ByteArray × Nat} (h : Dk w db mb room used fuse L F) (ho : DkOK room used fuse L F) (nm s : ByteArray) (h1 : 1 ≤ nm.size) (h2 : nm.size ≤ 40) (hs : s.size ≤ 100000000)
  (hl : L.length < 1000) (hr : room ≤ 4194304) (hc : ∀ r ∈ L, (F r.1).1.size ≤ 4194304) :
  Calls Tryz.prog 84 #[.pointer (some ⟨db, 0, none⟩), .string nm, .string s] w (DAppPost w db mb room used fuse L F nm s) := by
 by_cases hf : fuse = 0
 ·subst hf
  refine (dappend_down h nm s).mono ?_
  rintro e w' ⟨rfl, rfl⟩
  exact ⟨rfl, fun h => (by simp [appCode] at h), fun _ => Fr.same _⟩
 ·by_cases hro : room < used + s.size
  ·refine (dappend_full h hf nm s h1 h2 (by omega) ho.u0 ho.u1 hro).mono ?_
   rintro e w' ⟨rfl, hfr⟩
   have hc : appCode room used fuse s.size = 5 := by unfold appCode; rw [if_neg hf, if_pos hro]
   exact ⟨by rw [hc], fun h => (by rw [hc] at h; cases h), fun _ => hfr⟩
  ·have hc0 : appCode room used fuse s.size = 0 := by unfold appCode; rw [if_neg hf, if_neg hro]
   cases hg : getL L nm with
   | none =>
    refine (dappend_none h hf ho.fw nm s h1 h2 (by omega) ho.u0 ho.u1 (by omega) hg hl).mono ?_
    rintro e w' ⟨rfl, fb, hb1, hb2, hd, hfr⟩
    refine ⟨by rw [hc0], fun _ => ⟨_, ?_, fun ⟨fb, h⟩ => (by rw [hg] at h; cases h), fun _ => ⟨fb, rfl⟩, fun i hi => ?_, hfr⟩, fun h => (h hc0).elim⟩
    ·unfold curF
     rw [hg]
     dsimp only
     rw [ByteArray.empty_append]
     exact hd
    ·rcases hi with rfl | rfl | ⟨r, hr, rfl⟩
     ·exact .inl (.inl rfl)
     ·exact .inl (.inr (.inl rfl))
     ·rw [getL_put_row hg] at hr
      rcases List.mem_cons.1 hr with rfl | hr
      ·exact .inr ⟨hb1, hb2⟩
      ·exact .inl (.inr (.inr ⟨r, hr, rfl⟩))
   | some fb =>
    have hm := getL_some hg
    have h9 := hc _ hm
    refine (dappend_some h hf ho.fw nm s h1 h2 (by omega) ho.u0 ho.u1 (by omega) hg (by dsimp only at h9; omega)).mono ?_
    rintro e w' ⟨rfl, hd, hfr⟩
    refine ⟨by rw [hc0], fun _ => ⟨_, ?_, fun _ => rfl, fun h => (by rw [hg] at h; cases h), fun i hi => .inl hi, hfr⟩, fun h => (h hc0).elim⟩
    unfold curF
    rw [hg]
    exact hd
def synCode (fuse : Int) (L : List Row) (nm : ByteArray) : Int := if fuse = 0 then 7 else if (getL L nm).isSome then 0 else 6
def DSynPost (w : World) (db mb : Nat) (room used fuse : Int) (L : List Row) (F : ByteArray → ByteArray × Nat) (nm : ByteArray) (e : Ending) (w' : World) : Prop :=
 e = .returned (.int .i64 (synCode fuse L nm)) ∧ (synCode fuse L nm = 0 → Dk w' db mb room used (burn fuse) L (updF F nm (F nm).1 (F nm).1.size)) ∧ (synCode fuse L nm ≠ 0 → Dk w' db mb room used fuse L F) ∧ Fr (DkS db mb L) w w'
theorem dsync_any {w : World} {db mb : Nat} {room used fuse : Int} {L : List Row} {F : ByteArray → ByteArray × Nat} (h : Dk w db mb room used fuse L F) (ho : DkOK room used fuse L F) (nm : ByteArray) (h2 : nm.size ≤ 40) :
  Calls Tryz.prog 86 #[.pointer (some ⟨db, 0, none⟩), .string nm] w (DSynPost w db mb room used fuse L F nm) := by
 have hml : nm.size ≤ maxLen := by unfold maxLen; omega
 by_cases hf : fuse = 0
 ·subst hf
  refine (dsync_down h nm).mono ?_
  rintro e w' ⟨rfl, rfl⟩
  exact ⟨rfl, fun h => (by simp [synCode] at h), fun _ => h, Fr.refl _ _⟩
 ·cases hg : getL L nm with
  | none =>
   have hc : synCode fuse L nm = 6 := by unfold synCode; rw [if_neg hf, hg]; rfl
   refine (dsync_none h hf nm hml hg).mono ?_
   rintro e w' ⟨rfl, rfl⟩
   exact ⟨by rw [hc], fun h => (by rw [hc] at h; cases h), fun _ => h, Fr.refl _ _⟩
  | some fb =>
   have hc : synCode fuse L nm = 0 := by unfold synCode; rw [if_neg hf, hg]; rfl
   refine (dsync_some h hf ho.fw nm hml hg (ho.fs _ (getL_some hg)).1).mono ?_
   rintro e w' ⟨rfl, hd, hfr⟩
   exact ⟨by rw [hc], fun _ => hd, fun h => (h hc).elim, hfr⟩
end Go.Proofs.YtdlnafhhkpklmaaGreatDoor
/- Append, Sync, Base, End, Size of a segment: the walks. -/
namespace Go.Proofs.YtdlnafhhkpklmaaGreatDoor
open Go.RowKit Go.Fm Go.BigFrame Go.Shelf Go.Maps
set_option linter.unusedVariables false
set_option linter.unusedSimpArgs false
set_option maxRecDepth 100000
section
variable {B : Nat} {w : World} {sb db : Nat} {nm : ByteArray} {s : Seg} {S : Nat → Prop}
theorem Sg.cells (h : Sg B w sb db nm s S) : ∃ bv ib, w.heap[sb]? = some (segObj db nm s bv ib) := by
 obtain ⟨bv, ib, K, T, V, -⟩ := h
 exact ⟨bv, ib, V.hb⟩
theorem sbase_walk (h : Sg B w sb db nm s S) : Calls Tryz.prog 57 #[.pointer (some ⟨sb, 0, none⟩)] w fun e w' => e = .returned (.int .i64 s.base) ∧ w = w' := by
 obtain ⟨bv, ib, hb⟩ := h.cells
 have c : w.cell? ⟨sb, 2, none⟩ = some (.int .i64 s.base) := (cell_of hb 2).trans rfl
 clear h hb
 go_enter Tryz.func57, Tryz.ntmps57
 go_wp2_with fail
 go_ret
 exact ⟨rfl, rfl⟩
theorem send_walk (h : Sg B w sb db nm s S) : Calls Tryz.prog 55 #[.pointer (some ⟨sb, 0, none⟩)] w fun e w' => e = .returned (.int .i64 s.end') ∧ w = w' := by
 obtain ⟨bv, ib, hb⟩ := h.cells
 have c : w.cell? ⟨sb, 3, none⟩ = some (.int .i64 s.end') := (cell_of hb 3).trans rfl
 clear h hb
 go_enter Tryz.func55, Tryz.ntmps55
 go_wp2_with fail
 go_ret
 exact ⟨rfl, rfl⟩
theorem ssize_walk (h : Sg B w sb db nm s S) : Calls Tryz.prog 50 #[.pointer (some ⟨sb, 0, none⟩)] w fun e w' => e = .returned (.int .i64 (sumB s.l)) ∧ w = w' := by
 obtain ⟨bv, ib, hb⟩ := h.cells
 have c : w.cell? ⟨sb, 4, none⟩ = some (.int .i64 (sumB s.l)) := (cell_of hb 4).trans rfl
 clear h hb
 go_enter Tryz.func50, Tryz.ntmps50
 go_wp2_with fail
 go_ret
 exact ⟨rfl, rfl⟩
def ssynCode (c : Int) : Int := if c = 6 then 0 else c
def SSynPost (w : World) (db mb : Nat) (room used fuse : Int) (L : List Row) (F : ByteArray → ByteArray × Nat) (nm : ByteArray) (e : Ending) (w' : World) : Prop :=
 e = .returned (.int .i64 (ssynCode (synCode fuse L nm))) ∧ (synCode fuse L nm = 0 → Dk w' db mb room used (burn fuse) L (updF F nm (F nm).1 (F nm).1.size)) ∧ (synCode fuse L nm ≠ 0 → Dk w' db mb room used fuse L F) ∧ Fr (DkS db mb L) w w'
theorem ssync_walk (h : Sg B w sb db nm s S) {mb : Nat} {room used fuse : Int} {L : List Row} {F : ByteArray → ByteArray × Nat} (hd : Dk w db mb room used fuse L F) (ho : DkOK room used fuse L F) (h2 : nm.size ≤ 40) :
  Calls Tryz.prog 54 #[.pointer (some ⟨sb, 0, none⟩)] w (SSynPost w db mb room used fuse L F nm) := by
 obtain ⟨bv, ib, hb⟩ := h.cells
 have x0 : ∀ y : Lcl.InS (fun w' => Fr (fun _ => False) w w'), y.w.cell? ⟨sb, 0, none⟩ = some (.pointer (some ⟨db, 0, none⟩)) := fun y => y.h.cel ((cell_of hb 0).trans rfl)
 have x1 : ∀ y : Lcl.InS (fun w' => Fr (fun _ => False) w w'), y.w.cell? ⟨sb, 1, none⟩ = some (.string nm) := fun y => y.h.cel ((cell_of hb 1).trans rfl)
 have HD := Lib.hid hd
 have HO := Lib.hid ho
 clear h hb hd ho
 go_enter Tryz.func54, Tryz.ntmps54
 go_wp2_with fail
 refine Lcl.wp_region_calm (by kernel_rfl) [(true, [0, 1, 2, 4, 5, 6]), (false, [3, 7])] #[0, 1, 3, 7, 0, 16, 48, 112, 255, 511] [0, 1, 2, 3, 4, 5, 6, 7] 2 #[true, true, true, true, true, true, true, true, false, false] (by kernel_rfl) (by kernel_rfl) (by kernel_rfl) (fun w' => Fr (fun _ => False) w w') (Fr.same w).drew (fun d c a v w h => by cases d <;> exact h) ?_
 simp only [Lcl.opsOf, List.map_cons, List.map_nil, List.getElem?_toArray, List.getElem?_cons_succ, List.getElem?_cons_zero, Option.getD_some]
 refine Lcl.wpCalm_t ?_
 repeat (go_big_quiet_step (rfl))
 refine wpQuiet_nil ?_
 refine Lcl.wpCalm_f ?_
 repeat (go_big_quiet_step (rfl))
 refine wpQuiet_nil ?_
 refine Lcl.wpCalm_nil ?_
 clear x0 x1
 refine Lcl.wpG_run [8, 9] _ _ _ (by kernel_rfl) ?_
 simp only [List.map_cons, List.map_nil, List.getElem?_toArray, List.getElem?_cons_succ, List.getElem?_cons_zero, Option.getD_some]
 have hf := (Fr.refl (DkS db mb L) w).drew
 have FR := Lib.hid hf
 have HS := Lib.hid (dsync_any (HD.out.old (Fr.same w).drew) HO.out nm h2)
 clear hf
 by_cases h0 : fuse = 0
 ·have hc : synCode fuse L nm = 7 := by unfold synCode; rw [if_pos h0]
  unfold DSynPost at HS
  have HC := Lib.hid hc
  rw [hc] at HS
  clear hc h0
  go_wp2_with fail
  refine HS.out.mono ?_
  rintro e w3 ⟨rfl, -, hd3, hf3⟩
  have D3 := Lib.hid (hd3 (by omega))
  have F3 := Lib.hid (FR.out.trans hf3 fun i h => .inl h)
  clear hd3 hf3
  go_wp2_with fail
  go_ret
  exact ⟨by rw [HC.out]; rfl, fun h => (by rw [HC.out] at h; cases h), fun _ => D3.out, F3.out⟩
 ·cases hg : getL L nm with
  | none =>
   have hc : synCode fuse L nm = 6 := by unfold synCode; rw [if_neg h0, hg]; rfl
   unfold DSynPost at HS
   have HC := Lib.hid hc
   rw [hc] at HS
   clear hc h0 hg
   go_wp2_with fail
   refine HS.out.mono ?_
   rintro e w3 ⟨rfl, -, hd3, hf3⟩
   have D3 := Lib.hid (hd3 (by omega))
   have F3 := Lib.hid (FR.out.trans hf3 fun i h => .inl h)
   clear hd3 hf3
   go_wp2_with fail
   go_ret
   exact ⟨by rw [HC.out]; rfl, fun h => (by rw [HC.out] at h; cases h), fun _ => D3.out, F3.out⟩
  | some fb =>
   have hc : synCode fuse L nm = 0 := by unfold synCode; rw [if_neg h0, hg]; rfl
   unfold DSynPost at HS
   have HC := Lib.hid hc
   rw [hc] at HS
   clear hc h0 hg
   go_wp2_with fail
   refine HS.out.mono ?_
   rintro e w3 ⟨rfl, hd3, -, hf3⟩
   have D3 := Lib.hid (hd3 trivial)
   have F3 := Lib.hid (FR.out.trans hf3 fun i h => .inl h)
   clear hd3 hf3
   go_wp2_with fail
   go_ret
   exact ⟨by rw [HC.out]; rfl, fun _ => D3.out, fun h => (h HC.out).elim, F3.out⟩
end
end Go.Proofs.YtdlnafhhkpklmaaGreatDoor
/- Append to a segment: the walk. -/
namespace Go.Proofs.YtdlnafhhkpklmaaGreatDoor
open Go.RowKit Go.Fm Go.BigFrame Go.Shelf Go.Maps
set_option linter.unusedVariables false
set_option linter.unusedSimpArgs false
set_option maxRecDepth 100000
open Classical in
noncomputable def apCode (s : Seg) (b : Bat) (room used fuse : Int) : Int := if BatOK b ∧ s.end' ≤ b.base then appCode room used fuse (bsz b) else 1
/-- Behind an append: the segment has one batch more, and the disk its bytes; or nothing has turned. -/
def SAppOK (B : Nat) (w : World) (sb db mb : Nat) (nm : ByteArray) (s : Seg) (S : Nat → Prop) (b : Bat) (room used fuse : Int) (L : List Row) (F : ByteArray → ByteArray × Nat) (w' : World) : Prop :=
 ∃ (S' : Nat → Prop) (L' : List Row), Sg B w' sb db nm (s.push b) S' ∧ Dk w' db mb room (used + bsz b) (burn fuse) L' (updF F nm ((curF L F nm).1 ++ batS b) (curF L F nm).2) ∧
  ((∃ fb, getL L nm = some fb) → L' = L) ∧ (getL L nm = none → ∃ fb, L' = putR L nm fb) ∧
  (∀ i, S' i → ¬ DkS db mb L' i) ∧ (∀ i, S' i → S i ∨ (w.heap.size ≤ i ∧ i < w'.heap.size)) ∧ (∀ i, DkS db mb L' i → DkS db mb L i ∨ (w.heap.size ≤ i ∧ i < w'.heap.size)) ∧ Fr (fun i => S i ∨ DkS db mb L i) w w'
def SAppPost (B : Nat) (w : World) (sb db mb : Nat) (nm : ByteArray) (s : Seg) (S : Nat → Prop) (b : Bat) (room used fuse : Int) (L : List Row) (F : ByteArray → ByteArray × Nat) (e : Ending) (w' : World) : Prop :=
 e = .returned (.int .i64 (apCode s b room used fuse)) ∧ (apCode s b room used fuse = 0 → SAppOK B w sb db mb nm s S b room used fuse L F w') ∧ (apCode s b room used fuse ≠ 0 → Fr (fun _ => False) w w')
theorem bsz_le {b : Bat} (h : BatOK b) : bsz b ≤ 60008 := by
 unfold bsz; rw [batS_size]; have := h.body; omega
set_option maxHeartbeats 16000000 in
theorem sappend_walk {B : Nat} {w : World} {sb db mb : Nat} {nm : ByteArray} {s : Seg} {S : Nat → Prop} (h : Sg B w sb db nm s S) {room used fuse : Int} {L : List Row} {F : ByteArray → ByteArray × Nat} (hd : Dk w db mb room used fuse L F) (ho : DkOK room used fuse L F)
  (hap : ∀ i, S i → ¬ DkS db mb L i) (hSl : ∀ i, S i → i < w.heap.size) (h1 : 1 ≤ nm.size) (h2 : nm.size ≤ 40) (hl : L.length < 1000) (hroom : room ≤ 4194304) (hc : ∀ r ∈ L, (F r.1).1.size ≤ 4194304)
  (K : Nat → Prop) (hK : ∀ k, K k → ¬ DkS db mb L k) (b : Bat) (v : Value) (hr : RecsR K w v b.recs) (hst : StepsOK w) (hst0 : ∀ i, (S i ∨ DkS db mb L i) → i ≠ 0) (hn : s.l.length < 800) (hsum : sumB s.l ≤ 900000000) (hB : B ≤ w.heap.size) :
  Calls Tryz.prog 53 #[.pointer (some ⟨sb, 0, none⟩), batV b v] w (SAppPost B w sb db mb nm s S b room used fuse L F) := by
 obtain ⟨bv, ib, hb⟩ := h.cells
 have hh := hr
 obtain ⟨ra, rcap, rfl, -⟩ := hh
 have hf0 := (Fr.same w).alloc (.cells (batBox b (.slice ra b.recs.length rcap)) 36)
 have hx0 : (w.alloc (.cells (batBox b (.slice ra b.recs.length rcap)) 36)).heap[w.heap.size]? = some (.cells (batBox b (.slice ra b.recs.length rcap)) 36 (0, 0)) := heap_alloc_self _ _
 have F0 := Lib.hid hf0
 have X0 := Lib.hid hx0
 have HE := Lib.hid (bencode_walk K b (.slice ra b.recs.length rcap) (w.alloc (.cells (batBox b (.slice ra b.recs.length rcap)) 36)) (hr.old hf0) (hst.old hf0))
 have O0 := Lib.hid ((hf0.block _ (lt_of_heap hb) fun h => h).trans hb)
 have HR := Lib.hid hr
 have HK := Lib.hid hK
 have HS := Lib.hid h
 have HD := Lib.hid hd
 have HO := Lib.hid ho
 have HAP := Lib.hid hap
 have HSL := Lib.hid hSl
 have HC := Lib.hid hc
 have HST := Lib.hid hst
 have HS0 := Lib.hid hst0
 clear hf0 hx0 hr hK h hd ho hap hSl hc hst hst0 hb
 unfold batV at HE
 unfold batV
 unfold batBox at F0 X0 HE O0
 go_enter Tryz.func53, Tryz.ntmps53
 go_wp2_with fail
 generalize (w.alloc (.cells #[.int .i64 b.base, .int .i64 b.span, .int .i64 b.prod, .int .i64 b.epoch, .int .i64 b.seq, .slice ra b.recs.length rcap] 36)) = W at *
 refine HE.out.mono ?_
 rintro e w1 ⟨⟨hok, rfl⟩ | ⟨hno, rfl⟩, hf⟩
 ·have F1 := Lib.hid (F0.out.tr hf)
  have X1 := Lib.hid ((hf.block _ (lt_of_heap X0.out) fun h => h).trans X0.out)
  have O1 := Lib.hid ((hf.block _ (lt_of_heap O0.out) fun h => h).trans O0.out)
  have OKB := Lib.hid hok
  clear hf hok F0 X0 O0 HE
  have d0 : w1.cell? ⟨w.heap.size, 0, none⟩ = some (.int .i64 b.base) := (cell_of X1.out 0).trans rfl
  have d3 : w1.cell? ⟨sb, 3, none⟩ = some (.int .i64 s.end') := (cell_of O1.out 3).trans rfl
  by_cases hlow : b.base < s.end'
  ·have hcode : apCode s b room used fuse = 1 := by
    unfold apCode; rw [if_neg (fun h => by have := h.2; omega)]
   have HCD := Lib.hid hcode
   clear hcode
   go_wp2_with fail
   go_quiet (fail)
   have F2 := Lib.hid (F1.out.drewN nq)
   go_wp2_with fail
   go_ret
   exact ⟨by rw [HCD.out]; rfl, fun h => (by rw [HCD.out] at h; cases h), fun _ => F2.out⟩
  ·have hge : s.end' ≤ b.base := by omega
   have hcode : apCode s b room used fuse = appCode room used fuse (bsz b) := by
    unfold apCode; rw [if_pos ⟨OKB.out, hge⟩]
   have HCD := Lib.hid hcode
   have HGE := Lib.hid hge
   clear hcode hge
   go_wp2_with fail
   go_quiet (fail)
   have F2 := Lib.hid (F1.out.drewN nq)
   have X2 := Lib.hid (show (w1.drewN nq).heap[w.heap.size]? = _ from X1.out)
   have O2 := Lib.hid (show (w1.drewN nq).heap[sb]? = _ from O1.out)
   clear d0 d3 F1 X1 O1
   generalize w1.drewN nq = W2 at *
   have x0 : ∀ y : Lcl.InS (fun w' => Fr (fun _ => False) W2 w'), y.w.cell? ⟨sb, 0, none⟩ = some (.pointer (some ⟨db, 0, none⟩)) := fun y => y.h.cel ((cell_of O2.out 0).trans rfl)
   have x1 : ∀ y : Lcl.InS (fun w' => Fr (fun _ => False) W2 w'), y.w.cell? ⟨sb, 1, none⟩ = some (.string nm) := fun y => y.h.cel ((cell_of O2.out 1).trans rfl)
   go_wp2_with fail
   refine Lcl.wp_region_calm (by kernel_rfl) [(true, [0, 1, 2, 4, 5, 6, 8]), (false, [3, 7])] #[0, 1, 3, 7, 0, 16, 48, 112, 0, 511, 1023] [0, 1, 2, 3, 4, 5, 6, 7, 8] 2 #[true, true, true, true, true, true, true, true, true, false, false] (by kernel_rfl) (by kernel_rfl) (by kernel_rfl) (fun w' => Fr (fun _ => False) W2 w') (Fr.same W2).drew (fun d c a v w h => by cases d <;> exact h) ?_
   simp only [Lcl.opsOf, List.map_cons, List.map_nil, List.getElem?_toArray, List.getElem?_cons_succ, List.getElem?_cons_zero, Option.getD_some]
   refine Lcl.wpCalm_t ?_
   repeat (go_big_quiet_step (rfl))
   refine wpQuiet_nil ?_
   refine Lcl.wpCalm_f ?_
   repeat (go_big_quiet_step (rfl))
   refine wpQuiet_nil ?_
   refine Lcl.wpCalm_nil ?_
   clear x0 x1
   refine Lcl.wpG_run [9, 10] _ _ _ (by kernel_rfl) ?_
   simp only [List.map_cons, List.map_nil, List.getElem?_toArray, List.getElem?_cons_succ, List.getElem?_cons_zero, Option.getD_some]
   have F3 := Lib.hid (F2.out.drew)
   have X3 := Lib.hid (show W2.drew.heap[w.heap.size]? = _ from X2.out)
   have hbz := bsz_le OKB.out
   have HA := Lib.hid (dappend_any (HD.out.old F3.out) HO.out nm (batS b) h1 h2 (by unfold bsz at hbz; omega) hl hroom HC.out)
   clear F2 X2 O2
   generalize W2.drew = W3 at *
   unfold DAppPost at HA
   have hcc : appCode room used fuse (bsz b) = appCode room used fuse (batS b).size := rfl
   rw [hcc] at HCD
   clear hcc
   by_cases hc0 : appCode room used fuse (batS b).size = 0
   ·rw [hc0] at HA HCD
    clear hc0
    go_wp2_with fail
    refine HA.out.mono ?_
    rintro e w4 ⟨rfl, hdk, -⟩
    obtain ⟨L', hd4, hl1, hl2, hl3, hf4⟩ := hdk trivial
    have D4 := Lib.hid hd4
    have HL1 := Lib.hid hl1
    have HL2 := Lib.hid hl2
    have HL3 := Lib.hid hl3
    have G4 := Lib.hid hf4
    have hnd : ¬ DkS db mb L w.heap.size := fun h => by have := HD.out.lt h; omega
    have hx4 := (hf4.block _ (lt_of_heap X3.out) hnd).trans X3.out
    have c0 : w4.cell? ⟨w.heap.size, 0, none⟩ = some (.int .i64 b.base) := (cell_of hx4 0).trans rfl
    have c1 : w4.cell? ⟨w.heap.size, 1, none⟩ = some (.int .i64 b.span) := (cell_of hx4 1).trans rfl
    have c2 : w4.cell? ⟨w.heap.size, 2, none⟩ = some (.int .i64 b.prod) := (cell_of hx4 2).trans rfl
    have c3 : w4.cell? ⟨w.heap.size, 3, none⟩ = some (.int .i64 b.epoch) := (cell_of hx4 3).trans rfl
    have c4 : w4.cell? ⟨w.heap.size, 4, none⟩ = some (.int .i64 b.seq) := (cell_of hx4 4).trans rfl
    have c5 : w4.cell? ⟨w.heap.size, 5, none⟩ = some (.slice ra b.recs.length rcap) := (cell_of hx4 5).trans rfl
    have HR4 := Lib.hid ((HR.out.old F3.out).fr hf4 HK.out)
    have HS4 := Lib.hid ((HS.out.old F3.out).fr hf4 HAP.out)
    have hrl := OKB.out.len
    have hrh : ∀ r ∈ b.recs, r.hs.length ≤ 1000 := fun r hr => by
     obtain ⟨k, hk⟩ := List.getElem?_of_mem hr
     have := (OKB.out.recs k r hk).ok.hs
     omega
    have HRH := Lib.hid hrh
    clear hd4 hl1 hl2 hl3 hf4 hnd hx4 hdk HA X3 hrh
    go_wp2_with fail
    refine (copied_walk K b _ _ HR4.out (by omega) HRH.out).mono ?_
    rintro e w5 ⟨rv, rfl, hr5, hf5⟩
    have one5 := recs_one hr5
    have HS5 := Lib.hid (HS4.out.old hf5)
    have HR5 := Lib.hid (hr5.mono (K' := fun k => w4.heap.size ≤ k ∧ k < w5.heap.size) fun k hk hl => ⟨hk, hl⟩)
    have F5 := Lib.hid hf5
    have hsz3 := F3.out.size
    have hsz4 := G4.out.size
    have hsz5 := hf5.size
    have hKb : ∀ k, (w4.heap.size ≤ k ∧ k < w5.heap.size) → B ≤ k ∧ k < w5.heap.size ∧ ¬ S k := fun k hk => ⟨by omega, hk.2, fun h => by have := HSL.out k h; omega⟩
    have HN := Lib.hid (note_walk HS5.out b rv _ OKB.out HGE.out HR5.out hKb hn (by omega) (by omega))
    obtain ⟨ra5, rcap5, hrv⟩ : ∃ a c, rv = .slice a b.recs.length c := by obtain ⟨a, c, h, -⟩ := HR5.out; exact ⟨a, c, h⟩
    subst hrv
    have hbsz : (batS b).size = bsz b := rfl
    have HB := Lib.hid hbsz
    clear hr5 hf5 hKb c0 c1 c2 c3 c4 c5 one5 hbsz hsz3 hsz4 hsz5
    unfold batV at HN
    unfold batV
    go_wp2_with fail
    refine HN.out.mono ?_
    rintro e w6 ⟨rfl, hsg, hf6⟩
    have HSG := Lib.hid hsg
    have F6 := Lib.hid hf6
    clear hsg hf6 HN
    go_wp2_with fail
    go_ret
    have hsz3 := F3.out.size
    have hsz4 := G4.out.size
    have hsz5 := F5.out.size
    have hsz6 := F6.out.size
    have hDlt : ∀ i, DkS db mb L i → i < w.heap.size := fun i h => HD.out.lt h
    have hSn : ∀ i, (S i ∨ w4.heap.size ≤ i ∧ i < w5.heap.size) → ¬ DkS db mb L' i := fun i hi h => by
     rcases HL3.out i h with h | h
     ·rcases hi with hi | hi
      ·exact HAP.out i hi h
      ·have := hDlt i h; omega
     ·rcases hi with hi | hi
      ·have := HSL.out i hi; omega
      ·omega
    refine ⟨by rw [HCD.out]; rfl, fun _ => ⟨_, L', HSG.out, ?_, HL1.out, HL2.out, fun i hi h => ?_, fun i hi => ?_, fun i hi => ?_, ?_⟩, fun h => (h HCD.out).elim⟩
    ·rw [← HB.out]
     exact (D4.out.old F5.out).fr F6.out fun i hi h => hSn i h hi
    ·rcases hi with hi | hi
     ·exact hSn i hi h
     ·rcases HL3.out i h with h | h
      ·have := hDlt i h; omega
      ·omega
    ·rcases hi with (hi | hi) | hi
     ·exact .inl hi
     ·exact .inr ⟨by omega, by omega⟩
     ·exact .inr ⟨by omega, by omega⟩
    ·rcases HL3.out i hi with h | h
     ·exact .inl h
     ·exact .inr ⟨by omega, by omega⟩
    ·have g1 : Fr (fun i => S i ∨ DkS db mb L i) w w4 := (F3.out.mono (S' := fun i => S i ∨ DkS db mb L i) fun _ h => h.elim).trans G4.out fun i h => .inl (.inr h)
     exact (g1.trans F5.out fun _ h => h.elim).trans F6.out fun i h => by
      rcases h with h | h
      ·exact .inl (.inl h)
      ·exact .inr (by omega)
   ·have q1 : (appCode room used fuse (batS b).size != 0) = true := by simpa using hc0
    have q2 : (appCode room used fuse (batS b).size == 0) = false := by simpa using hc0
    have HC0 := Lib.hid hc0
    clear hc0
    generalize appCode room used fuse (batS b).size = c at *
    go_wp2_with fail
    refine HA.out.mono ?_
    rintro e w4 ⟨rfl, -, hfr⟩
    have F4 := Lib.hid (F3.out.tr (hfr HC0.out))
    clear hfr HA
    go_wp2_with fail
    go_ret
    exact ⟨by rw [HCD.out]; rfl, fun h => (HC0.out (HCD.out.symm.trans h)).elim, fun _ => F4.out⟩
 ·have F1 := Lib.hid (F0.out.tr hf)
  have hcode : apCode s b room used fuse = 1 := by
   unfold apCode; rw [if_neg (fun h => hno h.1)]
  have HCD := Lib.hid hcode
  clear hf hno hcode
  go_wp2_with fail
  go_quiet (fail)
  have F2 := Lib.hid (F1.out.drewN nq)
  go_wp2_with fail
  go_ret
  exact ⟨by rw [HCD.out]; rfl, fun h => (by rw [HCD.out] at h; cases h), fun _ => F2.out⟩
end Go.Proofs.YtdlnafhhkpklmaaGreatDoor
