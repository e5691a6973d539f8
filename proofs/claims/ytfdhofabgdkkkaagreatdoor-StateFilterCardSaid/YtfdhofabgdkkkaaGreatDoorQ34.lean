/- Requests that may be; a batch of one record. -/
import Derived.Test.YtfdhofabgdkkkaaGreatDoorQ33
namespace Go.Proofs.YtfdhofabgdkkkaaGreatDoor
open Go.RowKit Go.Fm Go.BigFrame Go.Shelf Go.Maps
set_option linter.unusedVariables false
set_option linter.unusedSimpArgs false
set_option maxRecDepth 100000
section
variable {w w' : World} {S : Nat → Prop}
theorem reqS_le {q : Req} (h : ReqWf q) (ft lt : ByteArray) : (reqS ByteArray.empty q ft lt).size ≤ q.name.size + q.group.size + (optT q.bat).size + ft.size + lt.size + 130 := by
 have p1 := putS_size h.kind
 have p2 := textS_sizeX (show q.name.size ≤ 1000000000000000000 by have := h.name; omega)
 have p5 := textS_sizeX (show (optT q.bat).size ≤ 1000000000000000000 by have := h.bat; omega)
 have p7 := textS_sizeX (show q.group.size ≤ 1000000000000000000 by have := h.group; omega)
 have p4 := putS_size (show (Lit.int .i64 (if q.flag then 1 else 0)).wf = true by cases q.flag <;> rfl)
 have q3 := plS_size [q.index, q.count, q.from'] (ByteArray.empty ++ putS q.kind ++ textS q.name) (by
  intro n hn
  rcases List.mem_cons.1 hn with rfl | hn
  ·exact h.index
  rcases List.mem_cons.1 hn with rfl | hn
  ·exact h.count
  rcases List.mem_cons.1 hn with rfl | hn
  ·exact h.from'
  ·cases hn)
 have q8 := plS_size [q.member, q.gen] (plS (ByteArray.empty ++ putS q.kind ++ textS q.name) [q.index, q.count, q.from'] ++ putS (if q.flag then 1 else 0) ++ textS (optT q.bat) ++ ft ++ textS q.group) (by
  intro n hn
  rcases List.mem_cons.1 hn with rfl | hn
  ·exact h.member
  rcases List.mem_cons.1 hn with rfl | hn
  ·exact h.gen
  ·cases hn)
 unfold reqS
 simp only [ByteArray.size_append, List.length_cons, List.length_nil] at q3 q8 ⊢
 have e0 : ByteArray.empty.size = 0 := rfl
 omega
theorem putS0 : (putS 0).size ≤ 10 := putS_size rfl
theorem text0 : (textS ⟨#[0]⟩).size ≤ 11 := textS_sizeX (by decide)
/-- A request of no filter and no topics. -/
theorem enc_in {q : Req} {rv : Value} {K : Nat → Prop} (hr : RecsR K w rv q.bat.recs) (ho : ∀ i, K i → i < w.heap.size) (hw : ReqWf q) (hst : StepsOK w) (h1 : q.fop = 0) (h2 : q.fnm = ⟨#[]⟩) (h3 : q.fvl = ⟨#[]⟩) :
  EncIn w q rv (.slice none 0 0) (.slice none 0 0) K (textS ⟨#[0]⟩) (putS 0) true true :=
 ⟨hr, ho, hw, hst, by have := text0; omega, filG_zero q rv _ h1 h2 h3, topG_nil q rv _⟩
theorem enc_top {q : Req} (hw : ReqWf q) : (reqS ByteArray.empty q (textS ⟨#[0]⟩) (putS 0)).size ≤ 2000000000000000 := by
 have := reqS_le hw (textS ⟨#[0]⟩) (putS 0)
 have := putS0; have := text0; have := hw.name; have := hw.group; have := hw.bat
 omega
/-- The numbers of a request may be. -/
structure ReqIn (q : Req) : Prop where
 kind : 1 ≤ q.kind ∧ q.kind ≤ 14
 index : -1 ≤ q.index ∧ q.index ≤ 2199023255552
 count : -1 ≤ q.count ∧ q.count ≤ 2199023255552
 from' : -1 ≤ q.from' ∧ q.from' ≤ 2199023255552
 member : -1 ≤ q.member ∧ q.member ≤ 2199023255552
 gen : -1 ≤ q.gen ∧ q.gen ≤ 2199023255552
 name : q.name.size ≤ 100
 group : q.group.size ≤ 100
 bat : optOk q.bat = true
 size : (optT q.bat).size ≤ 50000
theorem ReqIn.wf {q : Req} (h : ReqIn q) : ReqWf q := by
 obtain ⟨h1, h2, h3, h4, h5, h6, h7, h8, h9, h10⟩ := h
 have e : ∀ n : Int, -1 ≤ n → n ≤ 2199023255552 → (Lit.int .i64 n).wf = true := fun n a b => by simp [Lit.wf, IntKind.min, IntKind.max, IntKind.signed, IntKind.bits]; omega
 exact ⟨e _ (by omega) (by omega), e _ h2.1 h2.2, e _ h3.1 h3.2, e _ h4.1 h4.2, e _ h5.1 h5.2, e _ h6.1 h6.2, by omega, by omega, by omega⟩
theorem enc_yes {q : Req} (h : ReqIn q) : encOk q (textS ⟨#[0]⟩) (putS 0) true true = true := by
 have hs := reqS_le h.wf (textS ⟨#[0]⟩) (putS 0)
 have := putS0; have := text0; have := h.name; have := h.group; have := h.size
 unfold encOk
 rw [decide_eq_true (show (reqS ByteArray.empty q (textS ⟨#[0]⟩) (putS 0)).size ≤ 60000 by omega), Bool.and_true]
 unfold reqB plB
 simp only [List.foldl_cons, List.foldl_nil, okN, okT, h.bat, Bool.not_true, Bool.or_false]
 have k := h.kind; have i1 := h.index; have i2 := h.count; have i3 := h.from'; have i4 := h.member; have i5 := h.gen
 have n1 : ((q.name.size : Int) ≤ 100) := by omega
 have n2 : ((q.group.size : Int) ≤ 100) := by omega
 simp [k, i1, i2, i3, i4, i5, n1, n2]
theorem optT_empty {b : Bat} (h : emptyB b = true) : optT b = ByteArray.empty ∧ optOk b = true := by
 refine ⟨if_pos h, ?_⟩
 unfold optOk; rw [h]; rfl
theorem optT_ok {b : Bat} (h : emptyB b = false) (hb : BatOK b) : optT b = batS b ∧ optOk b = true := by
 refine ⟨by unfold optT; rw [h, if_neg (by simp), if_pos hb], by simp [optOk, hb]⟩
def zeroB : Bat := ⟨0, 0, 0, 0, 0, []⟩
/-- A request without a batch. -/
def plainR (kind : Int) (name : ByteArray) (index count from' : Int) : Req := ⟨kind, name, index, count, from', false, zeroB, 0, ⟨#[]⟩, ⟨#[]⟩, ⟨#[]⟩, 0, 0⟩
theorem plain_in {kind : Int} {name : ByteArray} {index count from' : Int} (hk : 1 ≤ kind ∧ kind ≤ 14) (hn : name.size ≤ 100) (h1 : -1 ≤ index ∧ index ≤ 2199023255552) (h2 : -1 ≤ count ∧ count ≤ 2199023255552) (h3 : -1 ≤ from' ∧ from' ≤ 2199023255552) : ReqIn (plainR kind name index count from') :=
 ⟨hk, h1, h2, h3, ⟨by show (-1 : Int) ≤ 0; omega, by show (0 : Int) ≤ 2199023255552; omega⟩, ⟨by show (-1 : Int) ≤ 0; omega, by show (0 : Int) ≤ 2199023255552; omega⟩, hn, Nat.zero_le _, (optT_empty (b := zeroB) rfl).2, by show (optT zeroB).size ≤ 50000; rw [(optT_empty (b := zeroB) rfl).1]; decide⟩
def kS : ByteArray := ⟨#[107]⟩
def vS : ByteArray := ⟨#[118]⟩
def simR : Rec := ⟨0, 0, false, kS, false, vS, []⟩
def simB (n : Int) : Bat := ⟨n, 1, -1, -1, -1, [simR]⟩
theorem simR_ok : RecOK simR := by constructor <;> simp [simR, kS, vS, ByteArray.size]
theorem putS_sz {n : Int} (h : zig n < 128) : (putS n).size = 1 := by rw [putS_len, putL_small h]; rfl
theorem simB_body {n : Int} (h0 : 0 ≤ n) (h1 : n < 64) : (bodyS (simB n)).size = 14 := by
 have e : bodyS (simB n) = putS n ++ putS 1 ++ putS (-1) ++ putS (-1) ++ putS (-1) ++ putS 1 ++ (putS 0 ++ putS 0 ++ putS 0 ++ (putS 1 ++ kS) ++ (putS 1 ++ vS) ++ putS 0) := rfl
 rw [e]
 simp only [ByteArray.size_append]
 rw [putS_sz (n := n) (by unfold zig; split <;> omega), putS_sz (n := 1) (by decide), putS_sz (n := -1) (by decide), putS_sz (n := 0) (by decide)]
 rfl
theorem simB_ok {n : Int} (h0 : 0 ≤ n) (h1 : n < 64) : BatOK (simB n) := by
 have hb := simB_body h0 h1
 refine { base0 := h0, base1 := by show n ≤ _; omega, span0 := by show (1 : Int) ≤ 1; omega, span1 := by show (1 : Int) ≤ 50; omega, who := .inl ⟨rfl, rfl, rfl⟩, len := by simp [simB], recs := fun k r hk => ?_, body := by omega }
 cases k with
 | zero =>
  simp [simB] at hk
  subst hk
  exact ⟨simR_ok, by show (0 : Int) < 1; omega, by show (-1 : Int) < 0; omega⟩
 | succ k => simp [simB] at hk
theorem simB_size {n : Int} (h0 : 0 ≤ n) (h1 : n < 64) : (batS (simB n)).size = 22 := by
 rw [batS_size, simB_body h0 h1]
def SimPost (w : World) (e : Ending) (w' : World) : Prop := ∃ oa c, e = .returned (batV (simB 0) (.slice oa 1 c)) ∧ RecsR (fun b => w.heap.size ≤ b) w' (.slice oa 1 c) (simB 0).recs ∧ Fr (fun _ => False) w w'
theorem simple_walk (w : World) : Calls Tryz.prog 21 #[] w (SimPost w) := by
 go_enter Tryz.func21, Tryz.ntmps21
 go_wp2_with fail
 refine bodyPost_ret (v := batV (simB 0) (.slice (some ⟨w.heap.size + 1, 0, none⟩) 1 1)) (by simp [results, Tryz.f21, go_sem, batV, simB]) rfl ⟨_, _, rfl, ?_, ((Fr.same w).alloc _).alloc _⟩
 have hs : (w.alloc (.cells #[.int .i64 0, .int .i64 1, .int .i64 (-1), .int .i64 (-1), .int .i64 (-1), .slice (some ⟨w.heap.size + 1, 0, none⟩) 1 1] 35)).heap.size = w.heap.size + 1 := by simp
 generalize (w.alloc (.cells #[.int .i64 0, .int .i64 1, .int .i64 (-1), .int .i64 (-1), .int .i64 (-1), .slice (some ⟨w.heap.size + 1, 0, none⟩) 1 1] 35)) = W at hs ⊢
 refine ⟨_, _, rfl, fun k r hk => ?_⟩
 cases k with
 | zero =>
  simp [simB] at hk
  subst hk
  have hc := cell_alloc_new W #[.int .i64 0, .int .i64 0, .bool false, .string kS, .bool false, .string vS, .slice none 0 0] 95
  rw [hs] at hc
  exact ⟨⟨w.heap.size + 1, 0, none⟩, .slice none 0 0, rfl, Nat.le_succ _, ⟨hc 0, hc 1, hc 2, hc 3, hc 4, hc 5, hc 6⟩, hds_nil _ _⟩
 | succ k => simp [simB] at hk
end
end Go.Proofs.YtfdhofabgdkkkaaGreatDoor
/- Some answers that the document gives: live. -/
namespace Go.Proofs.YtfdhofabgdkkkaaGreatDoor
open Go.RowKit Go.Fm Go.BigFrame Go.Shelf Go.Maps
set_option linter.unusedVariables false
set_option linter.unusedSimpArgs false
set_option maxRecDepth 100000
section
variable {w w' : World} {S : Nat → Prop}
def tS : ByteArray := ⟨#[116]⟩
def uS : ByteArray := ⟨#[117]⟩
theorem box31 (w : World) (cells : Array Value) : Fr (fun _ => False) w ((w.alloc (.cells #[.int .i64 0, .int .i64 0, .int .i64 0, .int .i64 0, .int .i64 0, .int .i64 0, .int .i64 0, .slice none 0 0, .slice none 0 0, .slice none 0 0] 31)).setRow w.heap.size cells) ∧ ((w.alloc (.cells #[.int .i64 0, .int .i64 0, .int .i64 0, .int .i64 0, .int .i64 0, .int .i64 0, .int .i64 0, .slice none 0 0, .slice none 0 0, .slice none 0 0] 31)).setRow w.heap.size cells).heap[w.heap.size]? = some (.cells cells 31 (0, 0)) :=
 ⟨frRow ((Fr.same w).alloc _) (.inr (Nat.le_refl _)) _, setRow_heap _ _ _ _ 31 (0, 0) (heap_alloc_self w _)⟩
def prodR (name : ByteArray) (index : Int) (b : Bat) : Req := ⟨4, name, index, 0, 0, false, b, 0, ⟨#[]⟩, ⟨#[]⟩, ⟨#[]⟩, 0, 0⟩
theorem sim_in (index : Int) (h : -1 ≤ index ∧ index ≤ 2199023255552) : ReqIn (prodR tS index (simB 0)) := by
 obtain ⟨h1, h2⟩ := optT_ok (b := simB 0) rfl (simB_ok (by omega) (by omega))
 refine ⟨⟨by show (1 : Int) ≤ 4; omega, by show (4 : Int) ≤ 14; omega⟩, h, ⟨by show (-1 : Int) ≤ 0; omega, by show (0 : Int) ≤ 2199023255552; omega⟩, ⟨by show (-1 : Int) ≤ 0; omega, by show (0 : Int) ≤ 2199023255552; omega⟩, ⟨by show (-1 : Int) ≤ 0; omega, by show (0 : Int) ≤ 2199023255552; omega⟩, ⟨by show (-1 : Int) ≤ 0; omega, by show (0 : Int) ≤ 2199023255552; omega⟩, by show tS.size ≤ 100; decide, Nat.zero_le _, h2, ?_⟩
 show (optT (simB 0)).size ≤ 50000
 rw [h1, simB_size (by omega) (by omega)]
 omega
/-- A batch of one record, produced. -/
theorem live_prod {m : MachD} (hM : MachA w m) (hst : StepsOK w) {d : PartD} {p : Place} (hd : findM m tS 0 = some d) (hp : (p, d) ∈ m.L) (k : Nat) (hk : k < 60) (hen : d.en = k) (hn : d.n < 100000) (hb : d.bats.length < 100000)
  (rv : Value) (K : Nat → Prop) (hr : RecsR K w rv (simB 0).recs) (ho : ∀ i, K i → i < w.heap.size) :
  Calls Tryz.prog 12 #[.pointer (some ⟨m.mb, 0, none⟩), .agg (reqC (prodR tS 0 (simB 0)) rv (.slice none 0 0) (.slice none 0 0)), .int .i64 1] w fun e w' => e = .returned (tellV 0 k) ∧
   ∃ d' : PartD, MachA w' { m with L := setP m.L p d' } ∧ d'.st = d.st ∧ d'.en = (k + 1 : Nat) ∧ d'.bats = d.bats ++ [simB k] ∧ d'.n = d.n + 1 ∧ (∀ i, d'.T i → d.T i ∨ w.heap.size ≤ i) ∧ Fr d.T w w' := by
 have hin := sim_in 0 (by omega)
 have hab : atB d (simB 0) = simB k := by unfold atB simB; rw [hen]
 refine (do_produce hM (prodR tS 0 (simB 0)) rv _ _ K _ _ true true (enc_in hr ho hin.wf hst rfl rfl rfl) (enc_top hin.wf) rfl hd hp (by rw [hen]; omega) hn hb 1).mono ?_
 rintro e w' ⟨ee, cc, rfl, hc⟩
 rw [enc_yes hin] at hc
 have hok : BatOK (atB d (simB 0)) ∧ (batS (atB d (simB 0))).size ≤ 50000 := by
  rw [hab]; exact ⟨simB_ok (by omega) (by omega), by rw [simB_size (by omega) (by omega)]; omega⟩
 have hchk : chkP d.F (atB d (simB 0)) = (0, false, 0) := by
  rw [hab]; unfold chkP; exact if_pos rfl
 rcases hc with ⟨h, -⟩ | ⟨-, -, x, ag, c, hx, ⟨h, -⟩ | ⟨rfl, rfl, rfl, rfl, d', h1, h2, h3, h4, h5, h6, h8, h7⟩⟩
 ·rcases h with h | h
  ·cases h
  ·exact absurd hok h
 ·have hx := hchk.symm.trans hx
  injection hx with e1 e2
  injection e2 with e2 e3
  subst e2 e3
  rcases h with h | h
  ·exact absurd rfl h
  ·cases h
 ·have hpr : (prodR tS 0 (simB 0)).bat = simB 0 := rfl
  rw [hpr, hab] at h4
  rw [hpr] at h3
  exact ⟨by rw [hen], d', h1, h2, by rw [h3, hen]; push_cast; rfl, h4, h6, h8, h7⟩
theorem live_fetchF : fetchF 1 0 [simB (0 : Nat), simB (1 : Nat)] 0 [] = [simB (1 : Nat)] := by
 rw [fetchF_skip (show (simB (0 : Nat)).base + (simB (0 : Nat)).span ≤ 1 by decide), fetchF_more (show ¬ (simB (1 : Nat)).base + (simB (1 : Nat)).span ≤ 1 by decide) (fun h => by simp at h)]
 rfl
theorem prodV (index : Int) (b : Bat) (rv : Value) : reqC (prodR tS index b) rv (.slice none 0 0) (.slice none 0 0) = #[.int .i64 4, .string tS, .int .i64 index, .int .i64 0, .int .i64 0, .bool false, .int .i64 b.base, .int .i64 b.span, .int .i64 b.prod, .int .i64 b.epoch, .int .i64 b.seq, rv, .int .i64 0, .string ⟨#[]⟩, .string ⟨#[]⟩, .slice none 0 0, .string ⟨#[]⟩, .int .i64 0, .int .i64 0, .slice none 0 0] := rfl
def plainV (kind : Int) (name : ByteArray) (index count from' : Int) : Value := .agg #[.int .i64 kind, .string name, .int .i64 index, .int .i64 count, .int .i64 from', .bool false, .int .i64 0, .int .i64 0, .int .i64 0, .int .i64 0, .int .i64 0, .slice none 0 0, .int .i64 0, .string ⟨#[]⟩, .string ⟨#[]⟩, .slice none 0 0, .string ⟨#[]⟩, .int .i64 0, .int .i64 0, .slice none 0 0]
theorem plain_enc {kind : Int} {name : ByteArray} {index count from' : Int} (h : ReqIn (plainR kind name index count from')) (hst : StepsOK w) : EncIn w (plainR kind name index count from') (.slice none 0 0) (.slice none 0 0) (.slice none 0 0) (fun _ => False) (textS ⟨#[0]⟩) (putS 0) true true :=
 enc_in (recs_nil w 0) (fun i h => h.elim) h.wf hst rfl rfl rfl
/-- A machine all of which has been made since. -/
structure MachN (w0 w : World) (m : MachD) : Prop where
 a : MachA w m
 bs : ∀ i, m.B i → w0.heap.size ≤ i
 ts : ∀ x ∈ m.L, ∀ i, x.2.T i → w0.heap.size ≤ i
 f : Fr (fun _ => False) w0 w
theorem MachN.old {w0 : World} {m : MachD} (h : MachN w0 w m) (hf : Fr (fun _ => False) w w') : MachN w0 w' m := ⟨h.a.old hf, h.bs, h.ts, h.f.tr hf⟩
theorem MachN.same {w0 : World} {m : MachD} (h : MachN w0 w m) (ha : MachA w' m) (hf : Fr (fun _ => False) w w') : MachN w0 w' m := ⟨ha, h.bs, h.ts, h.f.tr hf⟩
theorem MachN.set {w0 : World} {m : MachD} (h : MachN w0 w m) {p : Place} {d d' : PartD} (hp : (p, d) ∈ m.L) (ha : MachA w' { m with L := setP m.L p d' }) (hT : ∀ i, d'.T i → d.T i ∨ w.heap.size ≤ i) (hf : Fr d.T w w') : MachN w0 w' { m with L := setP m.L p d' } := by
 refine ⟨ha, h.bs, ?_, h.f.trans hf fun i hi => .inr (h.ts _ hp i hi)⟩
 intro x hx i hi
 obtain ⟨y, hy, rfl⟩ := List.mem_map.1 hx
 by_cases e : y.1 = p
 ·rw [if_pos e] at hi
  rcases hT i hi with h1 | h1
  ·exact h.ts _ hp i h1
  ·exact Nat.le_trans h.f.size h1
 ·rw [if_neg e] at hi; exact h.ts y hy i hi
/-- A machine with one topic 't' of so many partitions. -/
structure OneT (w0 w : World) (mb : Nat) (m : MachD) (count : Int) : Prop where
 n : MachN w0 w m
 mb : m.mb = mb
 tl : m.TL = [(tS, oneV 0 count)]
 nx : m.next = 0
theorem OneT.get {w0 : World} {mb : Nat} {m : MachD} {count : Int} (h : OneT w0 w mb m count) : getG m.TL tS = some (oneV 0 count) := by rw [h.tl]; rfl
theorem OneT.find {w0 : World} {mb : Nat} {m : MachD} {count : Int} (h : OneT w0 w mb m count) (ix : Int) : findM m tS ix = findP m.L ⟨0, ix⟩ := by
 unfold findM; rw [h.get]; rfl
theorem OneT.none {w0 : World} {mb : Nat} {m : MachD} {count : Int} (h : OneT w0 w mb m count) (ix : Int) : findM m uS ix = none := by
 unfold findM; rw [h.tl]; rfl
def MadePost (w0 : World) (mb : Nat) (count : Int) (e : Ending) (w' : World) : Prop :=
 e = .returned (tellV 0 0) ∧ ∃ m, OneT w0 w' mb m count ∧ (∀ i : Int, 0 ≤ i → i < count → ∃ d, findP m.L ⟨0, i⟩ = some d ∧ NewP d) ∧ (∀ i : Int, ¬ (0 ≤ i ∧ i < count) → findP m.L ⟨0, i⟩ = none)
/-- A topic is made, on a machine that is new. -/
theorem made {w0 : World} {mb tb tmb pm : Nat} {cv : Value} (hM : MachA w ⟨mb, tb, tmb, pm, 0, [], cv, 0, []⟩) (hg : w0.heap.size ≤ mb ∧ w0.heap.size ≤ tb ∧ w0.heap.size ≤ tmb ∧ w0.heap.size ≤ pm) (hf : Fr (fun _ => False) w0 w) (hst : StepsOK w0) (count : Int) (hc : 1 ≤ count ∧ count ≤ 16) :
  Calls Tryz.prog 12 #[.pointer (some ⟨mb, 0, none⟩), plainV 1 tS 0 count 0, .int .i64 1] w (MadePost w0 mb count) := by
 have i1 := plain_in (kind := 1) (name := tS) (index := 0) (count := count) (from' := 0) (by omega) (by decide) (by omega) (by omega) (by omega)
 refine (do_create hM (plainR 1 tS 0 count 0) (.slice none 0 0) (.slice none 0 0) (.slice none 0 0) _ _ _ true true (plain_enc i1 (hst.old hf)) (enc_top i1.wf) (enc_yes i1) rfl (show 1 ≤ tS.size by decide) (show tS.size ≤ 100 by decide) hc.1 hc.2 rfl (Nat.zero_lt_succ _) (by show (0 : Int) < 1073741824; omega) (Nat.zero_lt_succ _) 1).mono ?_
 rintro e w3 ⟨he, m3, p1, p2, p3, p4, p5, p6, p7, p8, p9, p10, p11⟩
 have hB : ∀ i, (⟨mb, tb, tmb, pm, 0, [], cv, 0, []⟩ : MachD).B i → w0.heap.size ≤ i := by
  rintro i (h | h | h | h)
  ·have h : i = mb := h; omega
  ·have h : i = tb := h; omega
  ·have h : i = tmb := h; omega
  ·have h : i = pm := h; omega
 refine ⟨he, m3, ⟨⟨p1, fun i hi => hB i (p8 i hi), ?_, hf.trans p11 fun i hi => .inr (hB i hi)⟩, p2, p3, p5⟩, p6, ?_⟩
 ·intro x hx i hi
  rcases p9 x hx i hi with ⟨y, hy, -⟩ | h
  ·cases hy
  ·exact Nat.le_trans hf.size h
 ·intro i hi
  rw [p7 ⟨0, i⟩ (fun h => hi ⟨h.2.1, h.2.2⟩)]
  rfl
end
end Go.Proofs.YtfdhofabgdkkkaaGreatDoor
