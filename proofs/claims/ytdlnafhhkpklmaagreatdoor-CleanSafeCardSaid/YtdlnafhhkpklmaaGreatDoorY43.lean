/- A file written by way of another one, whatever the fuse. -/
import Derived.Test.YtdlnafhhkpklmaaGreatDoorY42
namespace Go.Proofs.YtdlnafhhkpklmaaGreatDoor
open Go.RowKit Go.Fm Go.BigFrame Go.Shelf Go.Maps
set_option linter.unusedVariables false
set_option linter.unusedSimpArgs false
set_option maxRecDepth 100000
section
variable {B : Nat} {w w' wA w0 w1 w2 w3 wr : World} {lb db mb : Nat} {p : ByteArray} {lim ev : Nat} {beg : Int} {es : List PE} {own : Bool} {L L' L2 : List Row} {S : Nat → Prop} {room used fuse used' fuse' : Int} {F F' F2 : ByteArray → ByteArray × Nat} {n j k : Nat} {nm t way bytes name : ByteArray}
/-- A disk, whatever its fuse. -/
structure DkU (w : World) (db mb : Nat) (room used fuse : Int) (L : List Row) (F : ByteArray → ByteArray × Nat) : Prop where
 dk : Dk w db mb room used fuse L F
 ok : DkOK room used fuse L F
 us : used = usd L F
 ur : used ≤ room
theorem DkU.fr {R : Nat → Prop} (h : DkU w db mb room used fuse L F) (hf : Fr R w w') (hS : ∀ i, DkS db mb L i → ¬ R i) : DkU w' db mb room used fuse L F := ⟨h.dk.fr hf hS, h.ok, h.us, h.ur⟩
theorem DkU.old (h : DkU w db mb room used fuse L F) (hf : Fr (fun _ => False) w w') : DkU w' db mb room used fuse L F := h.fr hf fun _ _ h => h
theorem DkU.post (h : DkU w db mb room used fuse L F) (hp : DkPost w db mb room used' (burn fuse) L F nm t n w') (hu : used' = used + t.size - (curF L F nm).1.size) (hn : n ≤ t.size) (hr : used' ≤ room) (hrm : room ≤ 4194304) :
  ∃ L', DkU w' db mb room used' (burn fuse) L' (updF F nm t n) ∧ HasNew L L' nm ∧ (∀ i, DkS db mb L' i → DkS db mb L i ∨ (w.heap.size ≤ i ∧ i < w'.heap.size)) ∧ Fr (DkS db mb L) w w' ∧ L'.length ≤ L.length + 1 := by
 obtain ⟨L', hd, h1, h2, h3, hf⟩ := hp
 have hI := HasNew.of h1 h2
 have hus : used' = usd L' (updF F nm t n) := by
  have h4 := h.us
  cases e : getL L nm with
  | some fb =>
   have h5 := usd_upd (F := F) (nm := nm) (t := t) (n := n) h.dk.m.1.nodup ⟨_, getL_some e, rfl⟩
   rw [curF_some e] at hu
   rw [h1 ⟨fb, e⟩]
   omega
  | none =>
   obtain ⟨fb, h5⟩ := h2 e
   rw [curF_none e] at hu
   rw [h5, getL_put_row e]
   have h6 : usd L (updF F nm t n) = usd L F := usd_congr fun r hr => by
    rw [updF_ne]
    intro e2
    have h7 := in_some hr
    rw [e2, e] at h7
    cases h7
   unfold usd at h6 h4 ⊢
   rw [List.map_cons, List.sum_cons, h6]
   dsimp only
   rw [updF_same]
   have h8 : ((ByteArray.empty, 0) : ByteArray × Nat).1.size = 0 := rfl
   rw [h8] at hu
   dsimp only
   omega
 have hu0 : 0 ≤ used' := by omega
 refine ⟨L', ⟨hd, ⟨hu0, by omega, burn_wf h.ok.fw, fun r hr => ?_⟩, hus, hr⟩, hI, h3, hf, ?_⟩
 ·have h4 := usd_mem (F := updF F nm t n) hr
  refine ⟨by omega, ?_⟩
  by_cases e : r.1 = nm
  ·rw [e, updF_same]; exact hn
  ·rw [updF_ne e]
   have h5 := in_some hr
   rw [hI.eq e] at h5
   obtain ⟨fb, h6⟩ := Option.isSome_iff_exists.1 h5
   exact (h.ok.fs _ (getL_some h6)).2
 ·cases e : getL L nm with
  | some fb => rw [h1 ⟨fb, e⟩]; omega
  | none => obtain ⟨fb, h5⟩ := h2 e; rw [h5, getL_put_row e, List.length_cons]; omega
theorem burn_neg (h : fuse = -1) : burn fuse = -1 := by subst h; rfl
/-- Where the disk's files stand, but for one of them, as they did. -/
def WrO (wA : World) (db mb : Nat) (room used fuse : Int) (L : List Row) (F : ByteArray → ByteArray × Nat) (way bytes : ByteArray) (w' : World) : Prop :=
 ∃ L2 used2 fu F2, DkU w' db mb room used2 fu L2 F2 ∧ (∀ x, x ≠ way → (getL L2 x).isSome = (getL L x).isSome ∧ F2 x = F x) ∧ (∀ i, DkS db mb L2 i → DkS db mb L i ∨ (wA.heap.size ≤ i ∧ i < w'.heap.size)) ∧ Fr (DkS db mb L) wA w' ∧ L2.length ≤ L.length + 1
def WrU (wA : World) (db mb : Nat) (room used fuse : Int) (L : List Row) (F : ByteArray → ByteArray × Nat) (way bytes name : ByteArray) : Nat → World → Prop
 | 0, w' => Fr (fun _ => False) wA w'
 | 1, w' => ∃ used2 fu, DkU w' db mb room used2 fu (delL L way) F ∧ (fuse = -1 → fu = -1) ∧ used2 ≤ used ∧ Fr (DkS db mb L) wA w'
 | 2, w' => ∃ L2 used2 fu F2, DkU w' db mb room used2 fu L2 F2 ∧ (fuse = -1 → fu = -1) ∧ (∀ x, (getL L2 x).isSome = if x = way then true else (getL L x).isSome) ∧ F2 way = (bytes, 0) ∧ (∀ x, x ≠ way → F2 x = F x) ∧ (∀ i, DkS db mb L2 i → DkS db mb L i ∨ (wA.heap.size ≤ i ∧ i < w'.heap.size)) ∧ Fr (DkS db mb L) wA w' ∧ L2.length ≤ L.length + 1 ∧ used2 ≤ used + bytes.size
 | 3, w' => ∃ L2 used2 fu F2, DkU w' db mb room used2 fu L2 F2 ∧ (fuse = -1 → fu = -1) ∧ (∀ x, (getL L2 x).isSome = if x = way then true else (getL L x).isSome) ∧ F2 way = (bytes, bytes.size) ∧ (∀ x, x ≠ way → F2 x = F x) ∧ (∀ i, DkS db mb L2 i → DkS db mb L i ∨ (wA.heap.size ≤ i ∧ i < w'.heap.size)) ∧ Fr (DkS db mb L) wA w' ∧ L2.length ≤ L.length + 1 ∧ used2 ≤ used + bytes.size
 | _, w' => ∃ L2 used2 fu F2, DkU w' db mb room used2 fu L2 F2 ∧ (fuse = -1 → fu = -1) ∧ (∀ x, (getL L2 x).isSome = if x = name then true else if x = way then false else (getL L x).isSome) ∧ F2 name = (bytes, bytes.size) ∧ (∀ x, x ≠ name → x ≠ way → F2 x = F x) ∧ (∀ i, DkS db mb L2 i → DkS db mb L i ∨ (wA.heap.size ≤ i ∧ i < w'.heap.size)) ∧ Fr (DkS db mb L) wA w' ∧ L2.length ≤ L.length ∧ used2 + (curF L F name).1.size ≤ used + bytes.size
theorem WrU.fr : ∀ {k : Nat}, WrU wA db mb room used fuse L F way bytes name k w' → Fr (DkS db mb L) wA w'
 | 0, h => Fr.mono h fun i h => h.elim
 | 1, ⟨_, _, h⟩ => h.2.2.2
 | 2, ⟨_, _, _, _, h⟩ => h.2.2.2.2.2.2.1
 | 3, ⟨_, _, _, _, h⟩ => h.2.2.2.2.2.2.1
 | _ + 4, ⟨_, _, _, _, h⟩ => h.2.2.2.2.2.2.1
theorem WrU.old : ∀ {k : Nat}, WrU wA db mb room used fuse L F way bytes name k w1 → Fr (fun _ => False) w1 w2 → WrU wA db mb room used fuse L F way bytes name k w2
 | 0, h, hf => Fr.tr h hf
 | 1, ⟨u, fu, h1, h2, h3, h4⟩, hf => ⟨u, fu, h1.old hf, h2, h3, h4.trans hf fun i h => h.elim⟩
 | 2, ⟨L2, u, fu, F2, h1, h2, h3, h4, h5, h6, h7, h8⟩, hf => ⟨L2, u, fu, F2, h1.old hf, h2, h3, h4, h5, fun i hi => (h6 i hi).imp id fun h => ⟨h.1, by have := hf.size; omega⟩, h7.trans hf fun i h => h.elim, h8⟩
 | 3, ⟨L2, u, fu, F2, h1, h2, h3, h4, h5, h6, h7, h8⟩, hf => ⟨L2, u, fu, F2, h1.old hf, h2, h3, h4, h5, fun i hi => (h6 i hi).imp id fun h => ⟨h.1, by have := hf.size; omega⟩, h7.trans hf fun i h => h.elim, h8⟩
 | _ + 4, ⟨L2, u, fu, F2, h1, h2, h3, h4, h5, h6, h7, h8⟩, hf => ⟨L2, u, fu, F2, h1.old hf, h2, h3, h4, h5, fun i hi => (h6 i hi).imp id fun h => ⟨h.1, by have := hf.size; omega⟩, h7.trans hf fun i h => h.elim, h8⟩
theorem WrU.bad (hd : DkU wA db mb room used fuse L F) : ∀ {k : Nat}, k ≤ 3 → WrU wA db mb room used fuse L F way bytes name k w1 → WrO wA db mb room used fuse L F way bytes w1
 | 0, _, h => ⟨L, used, fuse, F, hd.old h, fun x hx => ⟨rfl, rfl⟩, fun i hi => .inl hi, Fr.mono h fun i h => h.elim, by omega⟩
 | 1, _, ⟨u, fu, h1, h2, h3, h4⟩ => ⟨_, u, fu, F, h1, fun x hx => ⟨by rw [getL_del, if_neg hx], rfl⟩, fun i hi => .inl hi.del, h4, by have : (delL L way).length ≤ L.length := List.length_filter_le _ _; omega⟩
 | 2, _, ⟨L2, u, fu, F2, h1, h2, h3, h4, h5, h6, h7, h8⟩ => ⟨L2, u, fu, F2, h1, fun x hx => ⟨by rw [h3, if_neg hx], h5 x hx⟩, h6, h7, h8.1⟩
 | 3, _, ⟨L2, u, fu, F2, h1, h2, h3, h4, h5, h6, h7, h8⟩ => ⟨L2, u, fu, F2, h1, fun x hx => ⟨by rw [h3, if_neg hx], h5 x hx⟩, h6, h7, h8.1⟩
 | k + 4, h, _ => by omega
/-- Behind one of the four: the next one, or an error, by the fuse. -/
def WrNext (wA : World) (db mb : Nat) (room used fuse : Int) (L : List Row) (F : ByteArray → ByteArray × Nat) (way bytes name : ByteArray) (k : Nat) (e : Ending) (w2 : World) : Prop :=
 ∃ c : Int, e = .returned (.int .i64 c) ∧ (c = 0 → WrU wA db mb room used fuse L F way bytes name (k + 1) w2) ∧ (c ≠ 0 → fuse ≠ -1 ∧ WrU wA db mb room used fuse L F way bytes name k w2)
theorem WrU.drop (hs : WrU wA db mb room used fuse L F way bytes name 0 w1) (hd : DkU wA db mb room used fuse L F) (hc : w1.cell? ⟨lb, 3, none⟩ = some (.pointer (some ⟨db, 0, none⟩))) (h2 : way.size ≤ 40) :
  Calls Tryz.prog 42 #[.pointer (some ⟨lb, 0, none⟩), .string way] w1 (WrNext wA db mb room used fuse L F way bytes name 0) := by
 have hs' : Fr (fun _ => False) wA w1 := hs
 have hd1 := hd.old hs'
 refine (ldrop_walk hc hd1.dk hd1.ok way h2).mono ?_
 rintro e w2 ⟨rfl, hok, hno⟩
 refine ⟨_, rfl, fun h0 => ?_, fun h0 => ?_⟩
 ·by_cases hz : synCode fuse L way = 0
  ·obtain ⟨h3, hf⟩ := hok hz
   have hg : (getL L way).isSome = true := by
    unfold synCode at hz
    split at hz
    ·omega
    ·split at hz
     ·assumption
     ·omega
   obtain ⟨fb, hg⟩ := Option.isSome_iff_exists.1 hg
   have hu := usd_del (F := F) (nm := way) hd.dk.m.1.nodup ⟨_, getL_some hg, rfl⟩
   have hus := hd.us
   have hur := hd.ur
   have hu0 := hd.ok.u0
   have hu1 := hd.ok.u1
   exact ⟨_, _, ⟨h3, ⟨by omega, by omega, burn_wf hd.ok.fw, fun r hr => hd.ok.fs r (del_mem hr).1⟩, by omega, by omega⟩, burn_neg, by omega, (hs'.mono (S' := DkS db mb L) fun i h => h.elim).trans hf fun i h => .inl h⟩
  ·have h6 : synCode fuse L way = 6 := by
    unfold synCode at hz h0 ⊢
    split at hz
    ·rename_i hf0
     rw [if_pos hf0] at h0
     exact absurd h0 (by decide)
    ·rename_i hf0
     rw [if_neg hf0]
     split at hz
     ·exact absurd rfl hz
     ·rename_i hg
      rw [if_neg hg]
   have hg : getL L way = none := by
    unfold synCode at h6
    split at h6
    ·omega
    ·split at h6
     ·omega
     ·rename_i hg; simpa using hg
   have hf := hno hz
   refine ⟨used, fuse, ?_, id, Int.le_refl _, (hs'.tr hf).mono fun i h => h.elim⟩
   rw [del_none hg]
   exact hd1.old hf
 ·have h7 : fuse = 0 := by
   unfold synCode at h0
   split at h0
   ·assumption
   ·split at h0
    ·exact absurd rfl h0
    ·exact absurd rfl h0
  have hz : synCode fuse L way ≠ 0 := by unfold synCode; rw [if_pos h7]; decide
  exact ⟨by omega, Fr.tr hs' (hno hz)⟩
theorem WrU.append (hs : WrU wA db mb room used fuse L F way bytes name 1 w1) (hrm : room ≤ 4194304) (hroom : used + bytes.size ≤ room) (hL : L.length < 999) (hw1 : 1 ≤ way.size) (hw2 : way.size ≤ 40) :
  Calls Tryz.prog 84 #[.pointer (some ⟨db, 0, none⟩), .string way, .string bytes] w1 (WrNext wA db mb room used fuse L F way bytes name 1) := by
 obtain ⟨u1, fu, hd, hfu, hu, hf⟩ := hs
 have hlen : (delL L way).length ≤ L.length := List.length_filter_le _ _
 have hg : getL (delL L way) way = none := by rw [getL_del, if_pos rfl]
 have hu0 := hd.ok.u0
 refine (dappend_any hd.dk hd.ok way bytes hw1 hw2 (by omega) (by omega) hrm fun r hr => by
  have h1 := usd_mem (F := F) hr
  have h2 := hd.us
  have h3 := hd.ur
  omega).mono ?_
 rintro e w2 ⟨rfl, hok, hno⟩
 refine ⟨_, rfl, fun hc => ?_, fun hc => ?_⟩
 ·obtain ⟨L2, hd2, hn, hfo, hfr, hl2⟩ := hd.post (hok hc) (by rw [curF_none hg, ByteArray.size_append]; show _ = u1 + ((0 + bytes.size : Nat) : Int) - ((0 : Nat) : Int); omega) (by rw [curF_none hg]; exact Nat.zero_le _) (by omega) hrm
  refine ⟨L2, _, _, _, hd2, fun h => burn_neg (hfu h), fun x => ?_, ?_, fun x hx => updF_ne hx, fun i hi => ?_, hf.trans hfr fun i hi => .inl hi.del, by omega, by omega⟩
  ·by_cases e : x = way
   ·rw [if_pos e]; exact (hn x).2 (.inr e)
   ·rw [if_neg e, hn.eq e, getL_del, if_neg e]
  ·rw [updF_same, curF_none hg]
   show (ByteArray.empty ++ bytes, 0) = _
   rw [ByteArray.empty_append]
  ·have := hf.size
   exact (hfo i hi).imp (fun h => h.del) fun h => ⟨by omega, h.2⟩
 ·have hf2 := hno hc
  refine ⟨fun h => hc ?_, u1, fu, hd.old hf2, hfu, hu, hf.trans hf2 fun i h => h.elim⟩
  rw [hfu h]
  unfold appCode
  rw [if_neg (by decide), if_neg (by omega)]
theorem WrU.sync (hs : WrU wA db mb room used fuse L F way bytes name 2 w1) (hrm : room ≤ 4194304) (hw2 : way.size ≤ 40) :
  Calls Tryz.prog 86 #[.pointer (some ⟨db, 0, none⟩), .string way] w1 (WrNext wA db mb room used fuse L F way bytes name 2) := by
 obtain ⟨L2, u2, fu, F2, hd, hfu, hL2, hF, hFx, hfo, hf, hl, hub⟩ := hs
 have hgs : (getL L2 way).isSome = true := by rw [hL2, if_pos rfl]
 obtain ⟨fb, hg⟩ := Option.isSome_iff_exists.1 hgs
 refine (dsync_any hd.dk hd.ok way hw2).mono ?_
 rintro e w2 ⟨rfl, hok, hno, hfr⟩
 have hfr4 : Fr (DkS db mb L) wA w2 := hf.trans hfr fun i hi => (hfo i hi).imp id fun h => h.1
 have hfo4 : ∀ i, DkS db mb L2 i → DkS db mb L i ∨ (wA.heap.size ≤ i ∧ i < w2.heap.size) := fun i hi => (hfo i hi).imp id fun h => ⟨h.1, by have := hfr.size; omega⟩
 refine ⟨_, rfl, fun hc => ?_, fun hc => ?_⟩
 ·have hd2 := hok hc
  rw [hF] at hd2
  refine ⟨L2, u2, _, _, ⟨hd2, ⟨hd.ok.u0, hd.ok.u1, burn_wf hd.ok.fw, fun r hr => ?_⟩, ?_, hd.ur⟩, fun h => burn_neg (hfu h), hL2, updF_same _ _ _ _, fun x hx => by rw [updF_ne hx]; exact hFx x hx, hfo4, hfr4, hl, hub⟩
  ·by_cases e : r.1 = way
   ·rw [e, updF_same]
    have := (hd.ok.fs _ (getL_some hg)).1
    rw [hF] at this
    exact ⟨this, Nat.le_refl _⟩
   ·rw [updF_ne e]; exact hd.ok.fs r hr
  ·rw [hd.us]
   congr 1
   refine (usd_congr fun r hr => ?_).symm
   by_cases e : r.1 = way
   ·rw [e, updF_same, hF]
   ·rw [updF_ne e]
 ·refine ⟨fun h => hc ?_, L2, u2, fu, F2, ⟨hno hc, hd.ok, hd.us, hd.ur⟩, hfu, hL2, hF, hFx, hfo4, hfr4, hl, hub⟩
  rw [hfu h]
  unfold synCode
  rw [if_neg (by decide), if_pos hgs]
theorem drename_down (h : Dk w db mb room used 0 L F) (old nm : ByteArray) (h1 : 1 ≤ nm.size) (h2 : nm.size ≤ 40) (hne : old ≠ nm) : Calls Tryz.prog 119 #[.pointer (some ⟨db, 0, none⟩), .string old, .string nm] w fun e w' => e = .returned (.int .i64 7) ∧ Fr (fun _ => False) w w' := by
 have HC := Lib.hid (file_down h old)
 clear h
 go_enter Tryz.func119, Tryz.ntmps119
 go_wp2_with fail
 refine HC.out.mono ?_
 rintro e w' ⟨rfl, rfl⟩
 go_wp2_with fail
 go_ret
 exact ⟨rfl, Fr.same _⟩
theorem WrU.rename (hs : WrU wA db mb room used fuse L F way bytes name 3 w1) (hrm : room ≤ 4194304) (hw2 : way.size ≤ 40) (hne : way ≠ name) (hn1 : 1 ≤ name.size) (hn2 : name.size ≤ 40) (hin : (getL L name).isSome = true) :
  Calls Tryz.prog 119 #[.pointer (some ⟨db, 0, none⟩), .string way, .string name] w1 (WrNext wA db mb room used fuse L F way bytes name 3) := by
 obtain ⟨L2, u2, fu, F2, hd, hfu, hL2, hF, hFx, hfo, hf, hl, hub⟩ := hs
 by_cases hz : fu = 0
 ·subst hz
  refine (drename_down hd.dk way name hn1 hn2 hne).mono ?_
  rintro e w2 ⟨rfl, hfr⟩
  exact ⟨7, rfl, fun h => absurd h (by decide), fun _ => ⟨fun h => by have := hfu h; omega, L2, u2, 0, F2, hd.old hfr, hfu, hL2, hF, hFx, fun i hi => (hfo i hi).imp id fun h => ⟨h.1, by have := hfr.size; omega⟩, hf.trans hfr fun i h => h.elim, hl, hub⟩⟩
 have hgs : (getL L2 way).isSome = true := by rw [hL2, if_pos rfl]
 obtain ⟨fb, hg⟩ := Option.isSome_iff_exists.1 hgs
 refine (drename_ok hd.dk hd.ok hz way name hne hw2 hn1 hn2 hg).mono ?_
 rintro e w2 ⟨rfl, hd2, hfr⟩
 refine ⟨0, rfl, fun _ => ?_, fun h => absurd rfl h⟩
 have hnd := hd.dk.m.1.nodup
 have hu1 := usd_del (F := F2) (nm := way) hnd ⟨_, getL_some hg, rfl⟩
 have hnd1 : ((delL L2 way).map (·.1)).Nodup := hnd.sublist (List.filter_sublist.map _)
 have hgn : (getL L2 name).isSome = true := by rw [hL2, if_neg (Ne.symm hne)]; exact hin
 obtain ⟨fbn, hgn⟩ := Option.isSome_iff_exists.1 hgn
 obtain ⟨fb0, hg0⟩ := Option.isSome_iff_exists.1 hin
 have hcn : curF L2 F2 name = curF L F name := by rw [curF_some hgn, curF_some hg0, hFx name (Ne.symm hne)]
 have hu2 : usd (delL (delL L2 way) name) F2 + (curF L2 F2 name).1.size = usd (delL L2 way) F2 := by
  rw [curF_some hgn]
  have h1 : getL (delL L2 way) name = some fbn := by rw [getL_del, if_neg (Ne.symm hne)]; exact hgn
  exact usd_del hnd1 ⟨_, getL_some h1, rfl⟩
 have hput : putR (delL L2 way) name fb = (name, fb) :: delL (delL L2 way) name := rfl
 have hus : u2 - (curF L2 F2 name).1.size = usd (putR (delL L2 way) name fb) (updF F2 name (F2 way).1 (F2 way).2) := by
  have h4 := hd.us
  have h6 : usd (delL (delL L2 way) name) (updF F2 name (F2 way).1 (F2 way).2) = usd (delL (delL L2 way) name) F2 := usd_congr fun r hr => by rw [updF_ne (del_mem hr).2]
  rw [hput]
  unfold usd at h6 hu1 hu2 h4 ⊢
  rw [List.map_cons, List.sum_cons, h6]
  dsimp only
  rw [updF_same]
  dsimp only
  omega
 have hsub : ∀ i, DkS db mb (putR (delL L2 way) name fb) i → DkS db mb L2 i := fun i hi => by
  rw [hput] at hi
  rcases hi with hi | hi | ⟨r, hr, e⟩
  ·exact .inl hi
  ·exact .inr (.inl hi)
  ·rcases List.mem_cons.1 hr with rfl | hr
   ·exact .inr (.inr ⟨_, getL_some hg, e⟩)
   ·exact .inr (.inr ⟨r, (del_mem (del_mem hr).1).1, e⟩)
 have hfr4 : Fr (DkS db mb L) wA w2 := hf.trans hfr fun i hi => (hfo i hi).imp id fun h => h.1
 have hur := hd.ur
 refine ⟨_, _, _, _, ⟨hd2, ⟨by omega, by omega, burn_wf hd.ok.fw, fun r hr => ?_⟩, hus, by omega⟩, fun h => burn_neg (hfu h), fun x => ?_, ?_, fun x h1 h2 => by rw [updF_ne h1]; exact hFx x h2, fun i hi => (hfo i (hsub i hi)).imp id fun h => ⟨h.1, by have := hfr.size; omega⟩, hfr4, ?_, by rw [hcn]; omega⟩
 ·have h1 := usd_mem (F := updF F2 name (F2 way).1 (F2 way).2) hr
  refine ⟨by omega, ?_⟩
  rw [hput] at hr
  rcases List.mem_cons.1 hr with rfl | hr
  ·rw [updF_same]; exact (hd.ok.fs _ (getL_some hg)).2
  ·rw [updF_ne (del_mem hr).2]; exact (hd.ok.fs r (del_mem (del_mem hr).1).1).2
 ·rw [getL_put]
  by_cases e : x = name
  ·rw [if_pos e, if_pos e]; rfl
  ·rw [if_neg e, if_neg e, getL_del]
   by_cases e2 : x = way
   ·rw [if_pos e2, if_pos e2]; rfl
   ·rw [if_neg e2, if_neg e2, hL2, if_neg e2]
 ·rw [updF_same, hF]
 ·rw [hput, List.length_cons]
  have h1 := len_strike hd.dk.m.1.nodup way
  rw [hg] at h1
  have h2 := len_strike hnd1 name
  have h3 : getL (delL L2 way) name = some fbn := by rw [getL_del, if_neg (Ne.symm hne)]; exact hgn
  rw [h3] at h2
  simp at h1 h2
  omega
theorem cu115 {a0 a1 : Nat} {Q : Int → World → Prop} (h0 : w.cell? ⟨a0, 0, none⟩ = some (.pointer (some ⟨lb, 0, none⟩))) (h1 : w.cell? ⟨a1, 0, none⟩ = some (.string way)) (H : Calls Tryz.prog 42 #[.pointer (some ⟨lb, 0, none⟩), .string way] w fun e w' => ∃ c : Int, e = .returned (.int .i64 c) ∧ Q c w') :
  Calls Tryz.prog 115 #[.pointer (some ⟨a0, 0, none⟩), .pointer (some ⟨a1, 0, none⟩)] w fun e w' => ∃ c : Int, e = .returned (.int .i64 c) ∧ Q c w' := by
 have HH := Lib.hid H
 clear H
 go_enter Tryz.func115, Tryz.ntmps115
 go_wp2_with fail
 refine HH.out.mono ?_
 rintro e w1 ⟨c, rfl, hq⟩
 have HQ := Lib.hid hq
 clear hq HH
 go_wp2_with fail
 go_ret
 exact ⟨_, rfl, HQ.out⟩
theorem cu116 {a0 : Nat} {a1 : Nat} {a2 : Nat} {Q : Int → World → Prop} (h0 : w.cell? ⟨a0, 0, none⟩ = some (.pointer (some ⟨lb, 0, none⟩))) (h1 : w.cell? ⟨a1, 0, none⟩ = some (.string way)) (h2 : w.cell? ⟨a2, 0, none⟩ = some (.string bytes)) (hc : w.cell? ⟨lb, 3, none⟩ = some (.pointer (some ⟨db, 0, none⟩))) (H : Calls Tryz.prog 84 #[.pointer (some ⟨db, 0, none⟩), .string way, .string bytes] w.drew fun e w' => ∃ c : Int, e = .returned (.int .i64 c) ∧ Q c w') :
  Calls Tryz.prog 116 #[.pointer (some ⟨a0, 0, none⟩), .pointer (some ⟨a1, 0, none⟩), .pointer (some ⟨a2, 0, none⟩)] w fun e w' => ∃ c : Int, e = .returned (.int .i64 c) ∧ Q c w' := by
 have z0 : ∀ y : Lcl.InS (fun w' => Fr (fun _ => False) w w'), y.w.cell? ⟨a0, 0, none⟩ = some (.pointer (some ⟨lb, 0, none⟩)) := fun y => y.h.cel h0
 have z1 : ∀ y : Lcl.InS (fun w' => Fr (fun _ => False) w w'), y.w.cell? ⟨a1, 0, none⟩ = some (.string way) := fun y => y.h.cel h1
 have z2 : ∀ y : Lcl.InS (fun w' => Fr (fun _ => False) w w'), y.w.cell? ⟨a2, 0, none⟩ = some (.string bytes) := fun y => y.h.cel h2
 have zc : ∀ y : Lcl.InS (fun w' => Fr (fun _ => False) w w'), y.w.cell? ⟨lb, 3, none⟩ = some (.pointer (some ⟨db, 0, none⟩)) := fun y => y.h.cel hc
 have HH := Lib.hid H
 clear H h0 h1 h2 hc
 go_enter Tryz.func116, Tryz.ntmps116
 go_wp2_with fail
 refine Lcl.wp_region_calm (by kernel_rfl) [(false, [0, 4, 5]), (true, [1, 2]), (false, [3])] #[0, 1, 3, 7, 0, 0, 63, 127] [0, 1, 2, 3, 4, 5] 2 #[true, true, true, true, true, true, false, false] (by kernel_rfl) (by kernel_rfl) (by kernel_rfl) (fun w' => Fr (fun _ => False) w w') (Fr.same w).drew (fun d c a v w h => by cases d <;> exact h) ?_
 simp only [Lcl.opsOf, List.map_cons, List.map_nil, List.getElem?_toArray, List.getElem?_cons_succ, List.getElem?_cons_zero, Option.getD_some]
 refine Lcl.wpCalm_f ?_
 repeat (go_big_quiet_step (rfl))
 refine wpQuiet_nil ?_
 refine Lcl.wpCalm_t ?_
 repeat (go_big_quiet_step (rfl))
 refine wpQuiet_nil ?_
 refine Lcl.wpCalm_f ?_
 repeat (go_big_quiet_step (rfl))
 refine wpQuiet_nil ?_
 refine Lcl.wpCalm_nil ?_
 clear z0 z1 z2 zc
 refine Lcl.wpG_one 6 rfl (by kernel_rfl) ?_
 go_wp2_with fail
 refine HH.out.mono ?_
 rintro e w1 ⟨c, rfl, hq⟩
 have HQ := Lib.hid hq
 clear hq HH
 go_wp2_with fail
 refine ⟨fun h => absurd h (by decide), ?_⟩
 refine Lcl.wpG_run [7] _ _ _ (by kernel_rfl) ?_
 simp only [List.map_cons, List.map_nil, List.getElem?_toArray, List.getElem?_cons_succ, List.getElem?_cons_zero, Option.getD_some]
 go_wp2_with fail
 go_ret
 exact ⟨_, rfl, HQ.out⟩
theorem cu117 {a0 : Nat} {a1 : Nat} {Q : Int → World → Prop} (h0 : w.cell? ⟨a0, 0, none⟩ = some (.pointer (some ⟨lb, 0, none⟩))) (h1 : w.cell? ⟨a1, 0, none⟩ = some (.string way)) (hc : w.cell? ⟨lb, 3, none⟩ = some (.pointer (some ⟨db, 0, none⟩))) (H : Calls Tryz.prog 86 #[.pointer (some ⟨db, 0, none⟩), .string way] w.drew fun e w' => ∃ c : Int, e = .returned (.int .i64 c) ∧ Q c w') :
  Calls Tryz.prog 117 #[.pointer (some ⟨a0, 0, none⟩), .pointer (some ⟨a1, 0, none⟩)] w fun e w' => ∃ c : Int, e = .returned (.int .i64 c) ∧ Q c w' := by
 have z0 : ∀ y : Lcl.InS (fun w' => Fr (fun _ => False) w w'), y.w.cell? ⟨a0, 0, none⟩ = some (.pointer (some ⟨lb, 0, none⟩)) := fun y => y.h.cel h0
 have z1 : ∀ y : Lcl.InS (fun w' => Fr (fun _ => False) w w'), y.w.cell? ⟨a1, 0, none⟩ = some (.string way) := fun y => y.h.cel h1
 have zc : ∀ y : Lcl.InS (fun w' => Fr (fun _ => False) w w'), y.w.cell? ⟨lb, 3, none⟩ = some (.pointer (some ⟨db, 0, none⟩)) := fun y => y.h.cel hc
 have HH := Lib.hid H
 clear H h0 h1 hc
 go_enter Tryz.func117, Tryz.ntmps117
 go_wp2_with fail
 refine Lcl.wp_region_calm (by kernel_rfl) [(false, [0, 4]), (true, [1, 2]), (false, [3])] #[0, 1, 3, 7, 0, 31, 63] [0, 1, 2, 3, 4] 2 #[true, true, true, true, true, false, false] (by kernel_rfl) (by kernel_rfl) (by kernel_rfl) (fun w' => Fr (fun _ => False) w w') (Fr.same w).drew (fun d c a v w h => by cases d <;> exact h) ?_
 simp only [Lcl.opsOf, List.map_cons, List.map_nil, List.getElem?_toArray, List.getElem?_cons_succ, List.getElem?_cons_zero, Option.getD_some]
 refine Lcl.wpCalm_f ?_
 repeat (go_big_quiet_step (rfl))
 refine wpQuiet_nil ?_
 refine Lcl.wpCalm_t ?_
 repeat (go_big_quiet_step (rfl))
 refine wpQuiet_nil ?_
 refine Lcl.wpCalm_f ?_
 repeat (go_big_quiet_step (rfl))
 refine wpQuiet_nil ?_
 refine Lcl.wpCalm_nil ?_
 clear z0 z1 zc
 refine Lcl.wpG_one 5 rfl (by kernel_rfl) ?_
 go_wp2_with fail
 refine HH.out.mono ?_
 rintro e w1 ⟨c, rfl, hq⟩
 have HQ := Lib.hid hq
 clear hq HH
 go_wp2_with fail
 refine ⟨fun h => absurd h (by decide), ?_⟩
 refine Lcl.wpG_run [6] _ _ _ (by kernel_rfl) ?_
 simp only [List.map_cons, List.map_nil, List.getElem?_toArray, List.getElem?_cons_succ, List.getElem?_cons_zero, Option.getD_some]
 go_wp2_with fail
 go_ret
 exact ⟨_, rfl, HQ.out⟩
theorem cu118 {a0 : Nat} {a1 : Nat} {a2 : Nat} {Q : Int → World → Prop} (h0 : w.cell? ⟨a0, 0, none⟩ = some (.pointer (some ⟨lb, 0, none⟩))) (h1 : w.cell? ⟨a1, 0, none⟩ = some (.string way)) (h2 : w.cell? ⟨a2, 0, none⟩ = some (.string name)) (hc : w.cell? ⟨lb, 3, none⟩ = some (.pointer (some ⟨db, 0, none⟩))) (H : Calls Tryz.prog 119 #[.pointer (some ⟨db, 0, none⟩), .string way, .string name] w.drew fun e w' => ∃ c : Int, e = .returned (.int .i64 c) ∧ Q c w') :
  Calls Tryz.prog 118 #[.pointer (some ⟨a0, 0, none⟩), .pointer (some ⟨a1, 0, none⟩), .pointer (some ⟨a2, 0, none⟩)] w fun e w' => ∃ c : Int, e = .returned (.int .i64 c) ∧ Q c w' := by
 have z0 : ∀ y : Lcl.InS (fun w' => Fr (fun _ => False) w w'), y.w.cell? ⟨a0, 0, none⟩ = some (.pointer (some ⟨lb, 0, none⟩)) := fun y => y.h.cel h0
 have z1 : ∀ y : Lcl.InS (fun w' => Fr (fun _ => False) w w'), y.w.cell? ⟨a1, 0, none⟩ = some (.string way) := fun y => y.h.cel h1
 have z2 : ∀ y : Lcl.InS (fun w' => Fr (fun _ => False) w w'), y.w.cell? ⟨a2, 0, none⟩ = some (.string name) := fun y => y.h.cel h2
 have zc : ∀ y : Lcl.InS (fun w' => Fr (fun _ => False) w w'), y.w.cell? ⟨lb, 3, none⟩ = some (.pointer (some ⟨db, 0, none⟩)) := fun y => y.h.cel hc
 have HH := Lib.hid H
 clear H h0 h1 h2 hc
 go_enter Tryz.func118, Tryz.ntmps118
 go_wp2_with fail
 refine Lcl.wp_region_calm (by kernel_rfl) [(false, [0, 4, 5]), (true, [1, 2]), (false, [3])] #[0, 1, 3, 7, 0, 0, 63, 127] [0, 1, 2, 3, 4, 5] 2 #[true, true, true, true, true, true, false, false] (by kernel_rfl) (by kernel_rfl) (by kernel_rfl) (fun w' => Fr (fun _ => False) w w') (Fr.same w).drew (fun d c a v w h => by cases d <;> exact h) ?_
 simp only [Lcl.opsOf, List.map_cons, List.map_nil, List.getElem?_toArray, List.getElem?_cons_succ, List.getElem?_cons_zero, Option.getD_some]
 refine Lcl.wpCalm_f ?_
 repeat (go_big_quiet_step (rfl))
 refine wpQuiet_nil ?_
 refine Lcl.wpCalm_t ?_
 repeat (go_big_quiet_step (rfl))
 refine wpQuiet_nil ?_
 refine Lcl.wpCalm_f ?_
 repeat (go_big_quiet_step (rfl))
 refine wpQuiet_nil ?_
 refine Lcl.wpCalm_nil ?_
 clear z0 z1 z2 zc
 refine Lcl.wpG_one 6 rfl (by kernel_rfl) ?_
 go_wp2_with fail
 refine HH.out.mono ?_
 rintro e w1 ⟨c, rfl, hq⟩
 have HQ := Lib.hid hq
 clear hq HH
 go_wp2_with fail
 refine ⟨fun h => absurd h (by decide), ?_⟩
 refine Lcl.wpG_run [7] _ _ _ (by kernel_rfl) ?_
 simp only [List.map_cons, List.map_nil, List.getElem?_toArray, List.getElem?_cons_succ, List.getElem?_cons_zero, Option.getD_some]
 go_wp2_with fail
 go_ret
 exact ⟨_, rfl, HQ.out⟩
set_option maxHeartbeats 16000000 in
theorem lwrite_u (hd : DkU w db mb room used fuse L F) (hc : w.cell? ⟨lb, 3, none⟩ = some (.pointer (some ⟨db, 0, none⟩))) (hlD : ¬ DkS db mb L lb) (hrm : room ≤ 4194304) (hroom : used + bytes.size ≤ room) (hL : L.length < 999) (hne : way ≠ name) (w1 : 1 ≤ way.size) (w2 : way.size ≤ 40) (n1 : 1 ≤ name.size) (n2 : name.size ≤ 40) (hin : (getL L name).isSome = true) :
  Calls Tryz.prog 90 #[.pointer (some ⟨lb, 0, none⟩), .string way, .string bytes, .string name] w fun e w' => ∃ c : Int, e = .returned (.int .i64 c) ∧ ∃ wA, Fr (fun _ => False) w wA ∧ (c = 0 → WrU wA db mb room used fuse L F way bytes name 4 w') ∧ (c ≠ 0 → fuse ≠ -1 ∧ WrO wA db mb room used fuse L F way bytes w') := by
 have HD := Lib.hid hd
 have HC := Lib.hid hc
 clear hd hc
 go_enter Tryz.func90, Tryz.ntmps90
 go_wp2_with fail
 have hz1 : (w.alloc (.cells #[.pointer (some ⟨lb, 0, none⟩)] 28)).heap.size = w.heap.size + 1 := by simp
 have hz2 : ((w.alloc (.cells #[.pointer (some ⟨lb, 0, none⟩)] 28)).alloc (.cells #[.string way] 9)).heap.size = w.heap.size + 1 + 1 := by simp
 have hz3 : (((w.alloc (.cells #[.pointer (some ⟨lb, 0, none⟩)] 28)).alloc (.cells #[.string way] 9)).alloc (.cells #[.string bytes] 9)).heap.size = w.heap.size + 1 + 1 + 1 := by simp
 have hz4 : ((((w.alloc (.cells #[.pointer (some ⟨lb, 0, none⟩)] 28)).alloc (.cells #[.string way] 9)).alloc (.cells #[.string bytes] 9)).alloc (.cells #[.string name] 9)).heap.size = w.heap.size + 1 + 1 + 1 + 1 := by simp
 have hz5 : (((((w.alloc (.cells #[.pointer (some ⟨lb, 0, none⟩)] 28)).alloc (.cells #[.string way] 9)).alloc (.cells #[.string bytes] 9)).alloc (.cells #[.string name] 9)).alloc (.cells #[.func (.func 115) #[] #[.pointer (some ⟨w.heap.size, 0, none⟩), .pointer (some ⟨w.heap.size + 1, 0, none⟩)], .func (.func 116) #[] #[.pointer (some ⟨w.heap.size, 0, none⟩), .pointer (some ⟨w.heap.size + 1, 0, none⟩), .pointer (some ⟨w.heap.size + 1 + 1, 0, none⟩)], .func (.func 117) #[] #[.pointer (some ⟨w.heap.size, 0, none⟩), .pointer (some ⟨w.heap.size + 1, 0, none⟩)], .func (.func 118) #[] #[.pointer (some ⟨w.heap.size, 0, none⟩), .pointer (some ⟨w.heap.size + 1, 0, none⟩), .pointer (some ⟨w.heap.size + 1 + 1 + 1, 0, none⟩)]] 54)).heap.size = w.heap.size + 1 + 1 + 1 + 1 + 1 := by simp
 have b0 := (show Fr (fun _ => False) (w.alloc (.cells #[.pointer (some ⟨lb, 0, none⟩)] 28)) (((((w.alloc (.cells #[.pointer (some ⟨lb, 0, none⟩)] 28)).alloc (.cells #[.string way] 9)).alloc (.cells #[.string bytes] 9)).alloc (.cells #[.string name] 9)).alloc (.cells #[.func (.func 115) #[] #[.pointer (some ⟨w.heap.size, 0, none⟩), .pointer (some ⟨w.heap.size + 1, 0, none⟩)], .func (.func 116) #[] #[.pointer (some ⟨w.heap.size, 0, none⟩), .pointer (some ⟨w.heap.size + 1, 0, none⟩), .pointer (some ⟨w.heap.size + 1 + 1, 0, none⟩)], .func (.func 117) #[] #[.pointer (some ⟨w.heap.size, 0, none⟩), .pointer (some ⟨w.heap.size + 1, 0, none⟩)], .func (.func 118) #[] #[.pointer (some ⟨w.heap.size, 0, none⟩), .pointer (some ⟨w.heap.size + 1, 0, none⟩), .pointer (some ⟨w.heap.size + 1 + 1 + 1, 0, none⟩)]] 54)) from ((((Fr.same _).alloc _).alloc _).alloc _).alloc _).cel (cell_alloc_new w #[.pointer (some ⟨lb, 0, none⟩)] 28 0)
 have b1 := (show Fr (fun _ => False) ((w.alloc (.cells #[.pointer (some ⟨lb, 0, none⟩)] 28)).alloc (.cells #[.string way] 9)) (((((w.alloc (.cells #[.pointer (some ⟨lb, 0, none⟩)] 28)).alloc (.cells #[.string way] 9)).alloc (.cells #[.string bytes] 9)).alloc (.cells #[.string name] 9)).alloc (.cells #[.func (.func 115) #[] #[.pointer (some ⟨w.heap.size, 0, none⟩), .pointer (some ⟨w.heap.size + 1, 0, none⟩)], .func (.func 116) #[] #[.pointer (some ⟨w.heap.size, 0, none⟩), .pointer (some ⟨w.heap.size + 1, 0, none⟩), .pointer (some ⟨w.heap.size + 1 + 1, 0, none⟩)], .func (.func 117) #[] #[.pointer (some ⟨w.heap.size, 0, none⟩), .pointer (some ⟨w.heap.size + 1, 0, none⟩)], .func (.func 118) #[] #[.pointer (some ⟨w.heap.size, 0, none⟩), .pointer (some ⟨w.heap.size + 1, 0, none⟩), .pointer (some ⟨w.heap.size + 1 + 1 + 1, 0, none⟩)]] 54)) from (((Fr.same _).alloc _).alloc _).alloc _).cel (cell_alloc_new (w.alloc (.cells #[.pointer (some ⟨lb, 0, none⟩)] 28)) #[.string way] 9 0)
 rw [hz1] at b1
 have b2 := (show Fr (fun _ => False) (((w.alloc (.cells #[.pointer (some ⟨lb, 0, none⟩)] 28)).alloc (.cells #[.string way] 9)).alloc (.cells #[.string bytes] 9)) (((((w.alloc (.cells #[.pointer (some ⟨lb, 0, none⟩)] 28)).alloc (.cells #[.string way] 9)).alloc (.cells #[.string bytes] 9)).alloc (.cells #[.string name] 9)).alloc (.cells #[.func (.func 115) #[] #[.pointer (some ⟨w.heap.size, 0, none⟩), .pointer (some ⟨w.heap.size + 1, 0, none⟩)], .func (.func 116) #[] #[.pointer (some ⟨w.heap.size, 0, none⟩), .pointer (some ⟨w.heap.size + 1, 0, none⟩), .pointer (some ⟨w.heap.size + 1 + 1, 0, none⟩)], .func (.func 117) #[] #[.pointer (some ⟨w.heap.size, 0, none⟩), .pointer (some ⟨w.heap.size + 1, 0, none⟩)], .func (.func 118) #[] #[.pointer (some ⟨w.heap.size, 0, none⟩), .pointer (some ⟨w.heap.size + 1, 0, none⟩), .pointer (some ⟨w.heap.size + 1 + 1 + 1, 0, none⟩)]] 54)) from ((Fr.same _).alloc _).alloc _).cel (cell_alloc_new ((w.alloc (.cells #[.pointer (some ⟨lb, 0, none⟩)] 28)).alloc (.cells #[.string way] 9)) #[.string bytes] 9 0)
 rw [hz2] at b2
 have b3 := (show Fr (fun _ => False) ((((w.alloc (.cells #[.pointer (some ⟨lb, 0, none⟩)] 28)).alloc (.cells #[.string way] 9)).alloc (.cells #[.string bytes] 9)).alloc (.cells #[.string name] 9)) (((((w.alloc (.cells #[.pointer (some ⟨lb, 0, none⟩)] 28)).alloc (.cells #[.string way] 9)).alloc (.cells #[.string bytes] 9)).alloc (.cells #[.string name] 9)).alloc (.cells #[.func (.func 115) #[] #[.pointer (some ⟨w.heap.size, 0, none⟩), .pointer (some ⟨w.heap.size + 1, 0, none⟩)], .func (.func 116) #[] #[.pointer (some ⟨w.heap.size, 0, none⟩), .pointer (some ⟨w.heap.size + 1, 0, none⟩), .pointer (some ⟨w.heap.size + 1 + 1, 0, none⟩)], .func (.func 117) #[] #[.pointer (some ⟨w.heap.size, 0, none⟩), .pointer (some ⟨w.heap.size + 1, 0, none⟩)], .func (.func 118) #[] #[.pointer (some ⟨w.heap.size, 0, none⟩), .pointer (some ⟨w.heap.size + 1, 0, none⟩), .pointer (some ⟨w.heap.size + 1 + 1 + 1, 0, none⟩)]] 54)) from (Fr.same _).alloc _).cel (cell_alloc_new (((w.alloc (.cells #[.pointer (some ⟨lb, 0, none⟩)] 28)).alloc (.cells #[.string way] 9)).alloc (.cells #[.string bytes] 9)) #[.string name] 9 0)
 rw [hz3] at b3
 have hg := fun k => cell_alloc_new ((((w.alloc (.cells #[.pointer (some ⟨lb, 0, none⟩)] 28)).alloc (.cells #[.string way] 9)).alloc (.cells #[.string bytes] 9)).alloc (.cells #[.string name] 9)) #[.func (.func 115) #[] #[.pointer (some ⟨w.heap.size, 0, none⟩), .pointer (some ⟨w.heap.size + 1, 0, none⟩)], .func (.func 116) #[] #[.pointer (some ⟨w.heap.size, 0, none⟩), .pointer (some ⟨w.heap.size + 1, 0, none⟩), .pointer (some ⟨w.heap.size + 1 + 1, 0, none⟩)], .func (.func 117) #[] #[.pointer (some ⟨w.heap.size, 0, none⟩), .pointer (some ⟨w.heap.size + 1, 0, none⟩)], .func (.func 118) #[] #[.pointer (some ⟨w.heap.size, 0, none⟩), .pointer (some ⟨w.heap.size + 1, 0, none⟩), .pointer (some ⟨w.heap.size + 1 + 1 + 1, 0, none⟩)]] 54 k
 rw [hz4] at hg
 have hFA : Fr (fun _ => False) w (((((w.alloc (.cells #[.pointer (some ⟨lb, 0, none⟩)] 28)).alloc (.cells #[.string way] 9)).alloc (.cells #[.string bytes] 9)).alloc (.cells #[.string name] 9)).alloc (.cells #[.func (.func 115) #[] #[.pointer (some ⟨w.heap.size, 0, none⟩), .pointer (some ⟨w.heap.size + 1, 0, none⟩)], .func (.func 116) #[] #[.pointer (some ⟨w.heap.size, 0, none⟩), .pointer (some ⟨w.heap.size + 1, 0, none⟩), .pointer (some ⟨w.heap.size + 1 + 1, 0, none⟩)], .func (.func 117) #[] #[.pointer (some ⟨w.heap.size, 0, none⟩), .pointer (some ⟨w.heap.size + 1, 0, none⟩)], .func (.func 118) #[] #[.pointer (some ⟨w.heap.size, 0, none⟩), .pointer (some ⟨w.heap.size + 1, 0, none⟩), .pointer (some ⟨w.heap.size + 1 + 1 + 1, 0, none⟩)]] 54)) := (((((Fr.same w).alloc _).alloc _).alloc _).alloc _).alloc _
 clear hz1 hz2 hz3 hz4 hz5
 obtain ⟨wA, hA⟩ : ∃ wA, wA = (((((w.alloc (.cells #[.pointer (some ⟨lb, 0, none⟩)] 28)).alloc (.cells #[.string way] 9)).alloc (.cells #[.string bytes] 9)).alloc (.cells #[.string name] 9)).alloc (.cells #[.func (.func 115) #[] #[.pointer (some ⟨w.heap.size, 0, none⟩), .pointer (some ⟨w.heap.size + 1, 0, none⟩)], .func (.func 116) #[] #[.pointer (some ⟨w.heap.size, 0, none⟩), .pointer (some ⟨w.heap.size + 1, 0, none⟩), .pointer (some ⟨w.heap.size + 1 + 1, 0, none⟩)], .func (.func 117) #[] #[.pointer (some ⟨w.heap.size, 0, none⟩), .pointer (some ⟨w.heap.size + 1, 0, none⟩)], .func (.func 118) #[] #[.pointer (some ⟨w.heap.size, 0, none⟩), .pointer (some ⟨w.heap.size + 1, 0, none⟩), .pointer (some ⟨w.heap.size + 1 + 1 + 1, 0, none⟩)]] 54)) := ⟨_, rfl⟩
 rw [← hA] at b0 b1 b2 b3 hg hFA ⊢
 clear hA
 have hDlt : ∀ i, DkS db mb L i → i < w.heap.size := fun i hi => HD.out.dk.lt hi
 have hdA := HD.out.old hFA
 have hcA := hFA.cel HC.out
 have hnot : ∀ i, w.heap.size ≤ i → ¬ DkS db mb L i := fun i h1 h2 => by have := hDlt i h2; omega
 have hall : Calls Tryz.prog 39 #[.slice (some ⟨w.heap.size + 1 + 1 + 1 + 1, 0, none⟩) 4 4] wA (AllPost (WrU wA db mb room used fuse L F way bytes name) (fun _ w' => fuse ≠ -1 ∧ WrO wA db mb room used fuse L F way bytes w') 4) := by
  refine (all_walk [⟨115, [], [.pointer (some ⟨w.heap.size, 0, none⟩), .pointer (some ⟨w.heap.size + 1, 0, none⟩)]⟩, ⟨116, [], [.pointer (some ⟨w.heap.size, 0, none⟩), .pointer (some ⟨w.heap.size + 1, 0, none⟩), .pointer (some ⟨w.heap.size + 1 + 1, 0, none⟩)]⟩, ⟨117, [], [.pointer (some ⟨w.heap.size, 0, none⟩), .pointer (some ⟨w.heap.size + 1, 0, none⟩)]⟩, ⟨118, [], [.pointer (some ⟨w.heap.size, 0, none⟩), .pointer (some ⟨w.heap.size + 1, 0, none⟩), .pointer (some ⟨w.heap.size + 1 + 1 + 1, 0, none⟩)]⟩] (w.heap.size + 1 + 1 + 1 + 1) 4 (WrU wA db mb room used fuse L F way bytes name) (fun _ w' => fuse ≠ -1 ∧ WrO wA db mb room used fuse L F way bytes w') wA (by simp) ?_ ?_ ?_ (Fr.same _))
  ·intro d hd args w
   simp only [List.mem_cons, List.not_mem_nil, or_false] at hd
   rcases hd with rfl | rfl | rfl | rfl <;> rfl
  ·intro k d hk w' hs
   refine hs.fr.cell ?_ (hnot _ (by show w.heap.size ≤ w.heap.size + 1 + 1 + 1 + 1; omega))
   rw [hg k]
   rcases k with _ | _ | _ | _ | k
   ·obtain rfl : d = _ := by simpa using hk.symm
    rfl
   ·obtain rfl : d = _ := by simpa using hk.symm
    rfl
   ·obtain rfl : d = _ := by simpa using hk.symm
    rfl
   ·obtain rfl : d = _ := by simpa using hk.symm
    rfl
   ·simp at hk
  ·intro k d hk w' hs
   have hf := hs.fr
   have e0 := hf.cell b0 (hnot _ (Nat.le_refl _))
   have e1 := hf.cell b1 (hnot _ (by show w.heap.size ≤ w.heap.size + 1; omega))
   have e2 := hf.cell b2 (hnot _ (by show w.heap.size ≤ w.heap.size + 1 + 1; omega))
   have e3 := hf.cell b3 (hnot _ (by show w.heap.size ≤ w.heap.size + 1 + 1 + 1; omega))
   have ec := hf.cell hcA hlD
   have hr := (Fr.same w').drew
   rcases k with _ | _ | _ | _ | k
   ·obtain rfl : d = _ := by simpa using hk.symm
    refine (cu115 e0 e1 (hs.drop hdA ec w2)).mono ?_
    rintro e w3 ⟨c, rfl, h1, h2⟩
    exact ⟨c, rfl, h1, fun h => ⟨(h2 h).1, (h2 h).2.bad hdA (by omega)⟩⟩
   ·obtain rfl : d = _ := by simpa using hk.symm
    refine (cu116 e0 e1 e2 ec ((hs.old hr).append hrm hroom hL w1 w2)).mono ?_
    rintro e w3 ⟨c, rfl, h1, h2⟩
    exact ⟨c, rfl, h1, fun h => ⟨(h2 h).1, (h2 h).2.bad hdA (by omega)⟩⟩
   ·obtain rfl : d = _ := by simpa using hk.symm
    refine (cu117 e0 e1 ec ((hs.old hr).sync hrm w2)).mono ?_
    rintro e w3 ⟨c, rfl, h1, h2⟩
    exact ⟨c, rfl, h1, fun h => ⟨(h2 h).1, (h2 h).2.bad hdA (by omega)⟩⟩
   ·obtain rfl : d = _ := by simpa using hk.symm
    refine (cu118 e0 e1 e3 ec ((hs.old hr).rename hrm w2 hne n1 n2 hin)).mono ?_
    rintro e w3 ⟨c, rfl, h1, h2⟩
    exact ⟨c, rfl, h1, fun h => ⟨(h2 h).1, (h2 h).2.bad hdA (by omega)⟩⟩
   ·simp at hk
 have HALL := Lib.hid hall
 have FA := Lib.hid hFA
 clear hall hFA b0 b1 b2 b3 hg hdA hcA hDlt hnot
 refine HALL.out.mono ?_
 rintro e w3 hp
 have hp2 : ∃ c : Int, e = .returned (.int .i64 c) ∧ (c = 0 → WrU wA db mb room used fuse L F way bytes name 4 w3) ∧ (c ≠ 0 → fuse ≠ -1 ∧ WrO wA db mb room used fuse L F way bytes w3) := by
  rcases hp with ⟨rfl, h⟩ | ⟨c, hc, rfl, h⟩
  ·exact ⟨0, rfl, fun _ => h, fun h => absurd rfl h⟩
  ·exact ⟨c, rfl, fun h => absurd h hc, fun _ => h⟩
 obtain ⟨c, rfl, hq1, hq2⟩ := hp2
 have HQ := Lib.hid (And.intro hq1 hq2)
 clear hq1 hq2 hp HALL
 go_wp2_with fail
 go_ret
 exact ⟨c, rfl, wA, FA.out, HQ.out.1, HQ.out.2⟩
end
end Go.Proofs.YtdlnafhhkpklmaaGreatDoor
