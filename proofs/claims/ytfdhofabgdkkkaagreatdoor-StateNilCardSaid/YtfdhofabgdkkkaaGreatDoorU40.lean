/- Some answers that the document gives: live. -/
import Derived.Test.YtfdhofabgdkkkaaGreatDoorU39
namespace Go.Proofs.YtfdhofabgdkkkaaGreatDoor
open Go.RowKit Go.Fm Go.BigFrame Go.Shelf Go.Maps
set_option linter.unusedVariables false
set_option linter.unusedSimpArgs false
set_option maxRecDepth 100000
section
variable {w w' : World} {S : Nat → Prop}
def tS : ByteArray := ⟨#[116]⟩
def uS : ByteArray := ⟨#[117]⟩
theorem box31 (w : World) (cells : Array Value) : Fr (fun _ => False) w ((w.alloc (.cells #[.int .i64 0, .int .i64 0, .int .i64 0, .int .i64 0, .int .i64 0, .int .i64 0, .int .i64 0, .slice none 0 0, .slice none 0 0, .slice none 0 0] 31)).setRow w.heap.size cells) ∧ ((w.alloc (.cells #[.int .i64 0, .int .i64 0, .int .i64 0, .int .i64 0, .int .i64 0, .int .i64 0, .int .i64 0, .slice none 0 0, .slice none 0 0, .slice none 0 0] 31)).setRow w.heap.size cells).heap[w.heap.size]? = some (.cells cells 31 (0, 0)) :=
 ⟨frRow ((Fr.same w).alloc _) (.inr (Nat.le_refl _)) _, setRow_heap _ _ _ _ 31 (0, 0) (heap_alloc_self w _)⟩
def prodR (name : ByteArray) (index : Int) (b : Bat) : Req := ⟨4, name, index, 0, 0, false, b, 0, ⟨#[]⟩, ⟨#[]⟩, ⟨#[]⟩, 0, 0⟩
theorem sim_in (index : Int) (h : -1 ≤ index ∧ index ≤ 2199023255552) : ReqIn (prodR tS index (simB 0)) := by
 obtain ⟨h1, h2⟩ := optT_ok (b := simB 0) rfl (simB_ok (by omega) (by omega))
 refine ⟨⟨by show (1 : Int) ≤ 4; omega, by show (4 : Int) ≤ 14; omega⟩, h, ⟨by show (-1 : Int) ≤ 0; omega, by show (0 : Int) ≤ 2199023255552; omega⟩, ⟨by show (-1 : Int) ≤ 0; omega, by show (0 : Int) ≤ 2199023255552; omega⟩, ⟨by show (-1 : Int) ≤ 0; omega, by show (0 : Int) ≤ 2199023255552; omega⟩, ⟨by show (-1 : Int) ≤ 0; omega, by show (0 : Int) ≤ 2199023255552; omega⟩, by show tS.size ≤ 100; decide, Nat.zero_le _, h2, ?_⟩
 show (optT (simB 0)).size ≤ 50000
 rw [h1, simB_size (by omega) (by omega)]
 omega
/-- A batch of one record, produced. -/
theorem live_prod {m : MachD} (hM : MachA w m) (hst : StepsOK w) {d : PartD} {p : Place} (hd : findM m tS 0 = some d) (hp : (p, d) ∈ m.L) (k : Nat) (hk : k < 60) (hen : d.en = k) (hn : d.n < 100000) (hb : d.bats.length < 100000)
  (rv : Value) (K : Nat → Prop) (hr : RecsR K w rv (simB 0).recs) (ho : ∀ i, K i → i < w.heap.size) :
  Calls Tryz.prog 12 #[.pointer (some ⟨m.mb, 0, none⟩), .agg (reqC (prodR tS 0 (simB 0)) rv (.slice none 0 0) (.slice none 0 0)), .int .i64 1] w fun e w' => e = .returned (tellV 0 k) ∧
   ∃ d' : PartD, MachA w' { m with L := setP m.L p d' } ∧ d'.st = d.st ∧ d'.en = (k + 1 : Nat) ∧ d'.bats = d.bats ++ [simB k] ∧ d'.n = d.n + 1 ∧ (∀ i, d'.T i → d.T i ∨ w.heap.size ≤ i) ∧ Fr d.T w w' := by
 have hin := sim_in 0 (by omega)
 have hab : atB d (simB 0) = simB k := by unfold atB simB; rw [hen]
 refine (do_produce hM (prodR tS 0 (simB 0)) rv _ _ K _ _ true true (enc_in hr ho hin.wf hst rfl rfl rfl) (enc_top hin.wf) rfl hd hp (by rw [hen]; omega) hn hb 1).mono ?_
 rintro e w' ⟨ee, cc, rfl, hc⟩
 rw [enc_yes hin] at hc
 have hok : BatOK (atB d (simB 0)) ∧ (batS (atB d (simB 0))).size ≤ 50000 := by
  rw [hab]; exact ⟨simB_ok (by omega) (by omega), by rw [simB_size (by omega) (by omega)]; omega⟩
 have hchk : chkP d.F (atB d (simB 0)) = (0, false, 0) := by
  rw [hab]; unfold chkP; exact if_pos rfl
 rcases hc with ⟨h, -⟩ | ⟨-, -, x, ag, c, hx, ⟨h, -⟩ | ⟨rfl, rfl, rfl, rfl, d', h1, h2, h3, h4, h5, h6, h8, h7⟩⟩
 ·rcases h with h | h
  ·cases h
  ·exact absurd hok h
 ·have hx := hchk.symm.trans hx
  injection hx with e1 e2
  injection e2 with e2 e3
  subst e2 e3
  rcases h with h | h
  ·exact absurd rfl h
  ·cases h
 ·have hpr : (prodR tS 0 (simB 0)).bat = simB 0 := rfl
  rw [hpr, hab] at h4
  rw [hpr] at h3
  exact ⟨by rw [hen], d', h1, h2, by rw [h3, hen]; push_cast; rfl, h4, h6, h8, h7⟩
theorem live_fetchF : fetchF 1 0 [simB (0 : Nat), simB (1 : Nat)] 0 [] = [simB (1 : Nat)] := by
 rw [fetchF_skip (show (simB (0 : Nat)).base + (simB (0 : Nat)).span ≤ 1 by decide), fetchF_more (show ¬ (simB (1 : Nat)).base + (simB (1 : Nat)).span ≤ 1 by decide) (fun h => by simp at h)]
 rfl
def plainV (kind : Int) (name : ByteArray) (index count from' : Int) : Value := .agg #[.int .i64 kind, .string name, .int .i64 index, .int .i64 count, .int .i64 from', .bool false, .int .i64 0, .int .i64 0, .int .i64 0, .int .i64 0, .int .i64 0, .slice none 0 0, .int .i64 0, .string ⟨#[]⟩, .string ⟨#[]⟩, .slice none 0 0, .string ⟨#[]⟩, .int .i64 0, .int .i64 0, .slice none 0 0]
theorem plain_enc {kind : Int} {name : ByteArray} {index count from' : Int} (h : ReqIn (plainR kind name index count from')) (hst : StepsOK w) : EncIn w (plainR kind name index count from') (.slice none 0 0) (.slice none 0 0) (.slice none 0 0) (fun _ => False) (textS ⟨#[0]⟩) (putS 0) true true :=
 enc_in (recs_nil w 0) (fun i h => h.elim) h.wf hst rfl rfl rfl
/-- A machine all of which has been made since. -/
structure MachN (w0 w : World) (m : MachD) : Prop where
 a : MachA w m
 bs : ∀ i, m.B i → w0.heap.size ≤ i
 ts : ∀ x ∈ m.L, ∀ i, x.2.T i → w0.heap.size ≤ i
 f : Fr (fun _ => False) w0 w
theorem MachN.old {w0 : World} {m : MachD} (h : MachN w0 w m) (hf : Fr (fun _ => False) w w') : MachN w0 w' m := ⟨h.a.old hf, h.bs, h.ts, h.f.tr hf⟩
theorem MachN.same {w0 : World} {m : MachD} (h : MachN w0 w m) (ha : MachA w' m) (hf : Fr (fun _ => False) w w') : MachN w0 w' m := ⟨ha, h.bs, h.ts, h.f.tr hf⟩
theorem MachN.set {w0 : World} {m : MachD} (h : MachN w0 w m) {p : Place} {d d' : PartD} (hp : (p, d) ∈ m.L) (ha : MachA w' { m with L := setP m.L p d' }) (hT : ∀ i, d'.T i → d.T i ∨ w.heap.size ≤ i) (hf : Fr d.T w w') : MachN w0 w' { m with L := setP m.L p d' } := by
 refine ⟨ha, h.bs, ?_, h.f.trans hf fun i hi => .inr (h.ts _ hp i hi)⟩
 intro x hx i hi
 obtain ⟨y, hy, rfl⟩ := List.mem_map.1 hx
 by_cases e : y.1 = p
 ·rw [if_pos e] at hi
  rcases hT i hi with h1 | h1
  ·exact h.ts _ hp i h1
  ·exact Nat.le_trans h.f.size h1
 ·rw [if_neg e] at hi; exact h.ts y hy i hi
/-- A machine with one topic 't' of so many partitions. -/
structure OneT (w0 w : World) (mb : Nat) (m : MachD) (count : Int) : Prop where
 n : MachN w0 w m
 mb : m.mb = mb
 tl : m.TL = [(tS, oneV 0 count)]
 nx : m.next = 0
theorem OneT.get {w0 : World} {mb : Nat} {m : MachD} {count : Int} (h : OneT w0 w mb m count) : getG m.TL tS = some (oneV 0 count) := by rw [h.tl]; rfl
theorem OneT.find {w0 : World} {mb : Nat} {m : MachD} {count : Int} (h : OneT w0 w mb m count) (ix : Int) : findM m tS ix = findP m.L ⟨0, ix⟩ := by
 unfold findM; rw [h.get]; rfl
theorem OneT.none {w0 : World} {mb : Nat} {m : MachD} {count : Int} (h : OneT w0 w mb m count) (ix : Int) : findM m uS ix = none := by
 unfold findM; rw [h.tl]; rfl
def MadePost (w0 : World) (mb : Nat) (count : Int) (e : Ending) (w' : World) : Prop :=
 e = .returned (tellV 0 0) ∧ ∃ m, OneT w0 w' mb m count ∧ (∀ i : Int, 0 ≤ i → i < count → ∃ d, findP m.L ⟨0, i⟩ = some d ∧ NewP d) ∧ (∀ i : Int, ¬ (0 ≤ i ∧ i < count) → findP m.L ⟨0, i⟩ = none)
/-- A topic is made, on a machine that is new. -/
theorem made {w0 : World} {mb tb tmb pm : Nat} {cv : Value} (hM : MachA w ⟨mb, tb, tmb, pm, 0, [], cv, 0, []⟩) (hg : w0.heap.size ≤ mb ∧ w0.heap.size ≤ tb ∧ w0.heap.size ≤ tmb ∧ w0.heap.size ≤ pm) (hf : Fr (fun _ => False) w0 w) (hst : StepsOK w0) (count : Int) (hc : 1 ≤ count ∧ count ≤ 16) :
  Calls Tryz.prog 12 #[.pointer (some ⟨mb, 0, none⟩), plainV 1 tS 0 count 0, .int .i64 1] w (MadePost w0 mb count) := by
 have i1 := plain_in (kind := 1) (name := tS) (index := 0) (count := count) (from' := 0) (by omega) (by decide) (by omega) (by omega) (by omega)
 refine (do_create hM (plainR 1 tS 0 count 0) (.slice none 0 0) (.slice none 0 0) (.slice none 0 0) _ _ _ true true (plain_enc i1 (hst.old hf)) (enc_top i1.wf) (enc_yes i1) rfl (show 1 ≤ tS.size by decide) (show tS.size ≤ 100 by decide) hc.1 hc.2 rfl (Nat.zero_lt_succ _) (by show (0 : Int) < 1073741824; omega) (Nat.zero_lt_succ _) 1).mono ?_
 rintro e w3 ⟨he, m3, p1, p2, p3, p4, p5, p6, p7, p8, p9, p10, p11⟩
 have hB : ∀ i, (⟨mb, tb, tmb, pm, 0, [], cv, 0, []⟩ : MachD).B i → w0.heap.size ≤ i := by
  rintro i (h | h | h | h)
  ·have h : i = mb := h; omega
  ·have h : i = tb := h; omega
  ·have h : i = tmb := h; omega
  ·have h : i = pm := h; omega
 refine ⟨he, m3, ⟨⟨p1, fun i hi => hB i (p8 i hi), ?_, hf.trans p11 fun i hi => .inr (hB i hi)⟩, p2, p3, p5⟩, p6, ?_⟩
 ·intro x hx i hi
  rcases p9 x hx i hi with ⟨y, hy, -⟩ | h
  ·cases hy
  ·exact Nat.le_trans hf.size h
 ·intro i hi
  rw [p7 ⟨0, i⟩ (fun h => hi ⟨h.2.1, h.2.2⟩)]
  rfl
end
end Go.Proofs.YtfdhofabgdkkkaaGreatDoor
