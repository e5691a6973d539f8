/- Requests that may be; a batch of one record. -/
import Derived.Test.YtfdhofabgdkkkaaGreatDoorU38
namespace Go.Proofs.YtfdhofabgdkkkaaGreatDoor
open Go.RowKit Go.Fm Go.BigFrame Go.Shelf Go.Maps
set_option linter.unusedVariables false
set_option linter.unusedSimpArgs false
set_option maxRecDepth 100000
section
variable {w w' : World} {S : Nat → Prop}
theorem reqS_le {q : Req} (h : ReqWf q) (ft lt : ByteArray) : (reqS ByteArray.empty q ft lt).size ≤ q.name.size + q.group.size + (optT q.bat).size + ft.size + lt.size + 130 := by
 have p1 := putS_size h.kind
 have p2 := textS_sizeX (show q.name.size ≤ 1000000000000000000 by have := h.name; omega)
 have p5 := textS_sizeX (show (optT q.bat).size ≤ 1000000000000000000 by have := h.bat; omega)
 have p7 := textS_sizeX (show q.group.size ≤ 1000000000000000000 by have := h.group; omega)
 have p4 := putS_size (show (Lit.int .i64 (if q.flag then 1 else 0)).wf = true by cases q.flag <;> rfl)
 have q3 := plS_size [q.index, q.count, q.from'] (ByteArray.empty ++ putS q.kind ++ textS q.name) (by
  intro n hn
  rcases List.mem_cons.1 hn with rfl | hn
  ·exact h.index
  rcases List.mem_cons.1 hn with rfl | hn
  ·exact h.count
  rcases List.mem_cons.1 hn with rfl | hn
  ·exact h.from'
  ·cases hn)
 have q8 := plS_size [q.member, q.gen] (plS (ByteArray.empty ++ putS q.kind ++ textS q.name) [q.index, q.count, q.from'] ++ putS (if q.flag then 1 else 0) ++ textS (optT q.bat) ++ ft ++ textS q.group) (by
  intro n hn
  rcases List.mem_cons.1 hn with rfl | hn
  ·exact h.member
  rcases List.mem_cons.1 hn with rfl | hn
  ·exact h.gen
  ·cases hn)
 unfold reqS
 simp only [ByteArray.size_append, List.length_cons, List.length_nil] at q3 q8 ⊢
 have e0 : ByteArray.empty.size = 0 := rfl
 omega
theorem putS0 : (putS 0).size ≤ 10 := putS_size rfl
theorem text0 : (textS ⟨#[0]⟩).size ≤ 11 := textS_sizeX (by decide)
/-- A request of no filter and no topics. -/
theorem enc_in {q : Req} {rv : Value} {K : Nat → Prop} (hr : RecsR K w rv q.bat.recs) (ho : ∀ i, K i → i < w.heap.size) (hw : ReqWf q) (hst : StepsOK w) (h1 : q.fop = 0) (h2 : q.fnm = ⟨#[]⟩) (h3 : q.fvl = ⟨#[]⟩) :
  EncIn w q rv (.slice none 0 0) (.slice none 0 0) K (textS ⟨#[0]⟩) (putS 0) true true :=
 ⟨hr, ho, hw, hst, by have := text0; omega, filG_zero q rv _ h1 h2 h3, topG_nil q rv _⟩
theorem enc_top {q : Req} (hw : ReqWf q) : (reqS ByteArray.empty q (textS ⟨#[0]⟩) (putS 0)).size ≤ 2000000000000000 := by
 have := reqS_le hw (textS ⟨#[0]⟩) (putS 0)
 have := putS0; have := text0; have := hw.name; have := hw.group; have := hw.bat
 omega
/-- The numbers of a request may be. -/
structure ReqIn (q : Req) : Prop where
 kind : 1 ≤ q.kind ∧ q.kind ≤ 14
 index : -1 ≤ q.index ∧ q.index ≤ 2199023255552
 count : -1 ≤ q.count ∧ q.count ≤ 2199023255552
 from' : -1 ≤ q.from' ∧ q.from' ≤ 2199023255552
 member : -1 ≤ q.member ∧ q.member ≤ 2199023255552
 gen : -1 ≤ q.gen ∧ q.gen ≤ 2199023255552
 name : q.name.size ≤ 100
 group : q.group.size ≤ 100
 bat : optOk q.bat = true
 size : (optT q.bat).size ≤ 50000
theorem ReqIn.wf {q : Req} (h : ReqIn q) : ReqWf q := by
 obtain ⟨h1, h2, h3, h4, h5, h6, h7, h8, h9, h10⟩ := h
 have e : ∀ n : Int, -1 ≤ n → n ≤ 2199023255552 → (Lit.int .i64 n).wf = true := fun n a b => by simp [Lit.wf, IntKind.min, IntKind.max, IntKind.signed, IntKind.bits]; omega
 exact ⟨e _ (by omega) (by omega), e _ h2.1 h2.2, e _ h3.1 h3.2, e _ h4.1 h4.2, e _ h5.1 h5.2, e _ h6.1 h6.2, by omega, by omega, by omega⟩
theorem enc_yes {q : Req} (h : ReqIn q) : encOk q (textS ⟨#[0]⟩) (putS 0) true true = true := by
 have hs := reqS_le h.wf (textS ⟨#[0]⟩) (putS 0)
 have := putS0; have := text0; have := h.name; have := h.group; have := h.size
 unfold encOk
 rw [decide_eq_true (show (reqS ByteArray.empty q (textS ⟨#[0]⟩) (putS 0)).size ≤ 60000 by omega), Bool.and_true]
 unfold reqB plB
 simp only [List.foldl_cons, List.foldl_nil, okN, okT, h.bat, Bool.not_true, Bool.or_false]
 have k := h.kind; have i1 := h.index; have i2 := h.count; have i3 := h.from'; have i4 := h.member; have i5 := h.gen
 have n1 : ((q.name.size : Int) ≤ 100) := by omega
 have n2 : ((q.group.size : Int) ≤ 100) := by omega
 simp [k, i1, i2, i3, i4, i5, n1, n2]
theorem optT_empty {b : Bat} (h : emptyB b = true) : optT b = ByteArray.empty ∧ optOk b = true := by
 refine ⟨if_pos h, ?_⟩
 unfold optOk; rw [h]; rfl
theorem optT_ok {b : Bat} (h : emptyB b = false) (hb : BatOK b) : optT b = batS b ∧ optOk b = true := by
 refine ⟨by unfold optT; rw [h, if_neg (by simp), if_pos hb], by simp [optOk, hb]⟩
def zeroB : Bat := ⟨0, 0, 0, 0, 0, []⟩
/-- A request without a batch. -/
def plainR (kind : Int) (name : ByteArray) (index count from' : Int) : Req := ⟨kind, name, index, count, from', false, zeroB, 0, ⟨#[]⟩, ⟨#[]⟩, ⟨#[]⟩, 0, 0⟩
theorem plain_in {kind : Int} {name : ByteArray} {index count from' : Int} (hk : 1 ≤ kind ∧ kind ≤ 14) (hn : name.size ≤ 100) (h1 : -1 ≤ index ∧ index ≤ 2199023255552) (h2 : -1 ≤ count ∧ count ≤ 2199023255552) (h3 : -1 ≤ from' ∧ from' ≤ 2199023255552) : ReqIn (plainR kind name index count from') :=
 ⟨hk, h1, h2, h3, ⟨by show (-1 : Int) ≤ 0; omega, by show (0 : Int) ≤ 2199023255552; omega⟩, ⟨by show (-1 : Int) ≤ 0; omega, by show (0 : Int) ≤ 2199023255552; omega⟩, hn, Nat.zero_le _, (optT_empty (b := zeroB) rfl).2, by show (optT zeroB).size ≤ 50000; rw [(optT_empty (b := zeroB) rfl).1]; decide⟩
def kS : ByteArray := ⟨#[107]⟩
def vS : ByteArray := ⟨#[118]⟩
def simR : Rec := ⟨0, 0, false, kS, false, vS, []⟩
def simB (n : Int) : Bat := ⟨n, 1, -1, -1, -1, [simR]⟩
theorem simR_ok : RecOK simR := by constructor <;> simp [simR, kS, vS, ByteArray.size]
theorem putS_sz {n : Int} (h : zig n < 128) : (putS n).size = 1 := by rw [putS_len, putL_small h]; rfl
theorem simB_body {n : Int} (h0 : 0 ≤ n) (h1 : n < 64) : (bodyS (simB n)).size = 14 := by
 have e : bodyS (simB n) = putS n ++ putS 1 ++ putS (-1) ++ putS (-1) ++ putS (-1) ++ putS 1 ++ (putS 0 ++ putS 0 ++ putS 0 ++ (putS 1 ++ kS) ++ (putS 1 ++ vS) ++ putS 0) := rfl
 rw [e]
 simp only [ByteArray.size_append]
 rw [putS_sz (n := n) (by unfold zig; split <;> omega), putS_sz (n := 1) (by decide), putS_sz (n := -1) (by decide), putS_sz (n := 0) (by decide)]
 rfl
theorem simB_ok {n : Int} (h0 : 0 ≤ n) (h1 : n < 64) : BatOK (simB n) := by
 have hb := simB_body h0 h1
 refine { base0 := h0, base1 := by show n ≤ _; omega, span0 := by show (1 : Int) ≤ 1; omega, span1 := by show (1 : Int) ≤ 50; omega, who := .inl ⟨rfl, rfl, rfl⟩, len := by simp [simB], recs := fun k r hk => ?_, body := by omega }
 cases k with
 | zero =>
  simp [simB] at hk
  subst hk
  exact ⟨simR_ok, by show (0 : Int) < 1; omega, by show (-1 : Int) < 0; omega⟩
 | succ k => simp [simB] at hk
theorem simB_size {n : Int} (h0 : 0 ≤ n) (h1 : n < 64) : (batS (simB n)).size = 22 := by
 rw [batS_size, simB_body h0 h1]
def SimPost (w : World) (e : Ending) (w' : World) : Prop := ∃ oa c, e = .returned (batV (simB 0) (.slice oa 1 c)) ∧ RecsR (fun b => w.heap.size ≤ b) w' (.slice oa 1 c) (simB 0).recs ∧ Fr (fun _ => False) w w'
theorem simple_walk (w : World) : Calls Tryz.prog 21 #[] w (SimPost w) := by
 go_enter Tryz.func21, Tryz.ntmps21
 go_wp2_with fail
 refine bodyPost_ret (v := batV (simB 0) (.slice (some ⟨w.heap.size + 1, 0, none⟩) 1 1)) (by simp [results, Tryz.f21, go_sem, batV, simB]) rfl ⟨_, _, rfl, ?_, ((Fr.same w).alloc _).alloc _⟩
 have hs : (w.alloc (.cells #[.int .i64 0, .int .i64 1, .int .i64 (-1), .int .i64 (-1), .int .i64 (-1), .slice (some ⟨w.heap.size + 1, 0, none⟩) 1 1] 35)).heap.size = w.heap.size + 1 := by simp
 generalize (w.alloc (.cells #[.int .i64 0, .int .i64 1, .int .i64 (-1), .int .i64 (-1), .int .i64 (-1), .slice (some ⟨w.heap.size + 1, 0, none⟩) 1 1] 35)) = W at hs ⊢
 refine ⟨_, _, rfl, fun k r hk => ?_⟩
 cases k with
 | zero =>
  simp [simB] at hk
  subst hk
  have hc := cell_alloc_new W #[.int .i64 0, .int .i64 0, .bool false, .string kS, .bool false, .string vS, .slice none 0 0] 95
  rw [hs] at hc
  exact ⟨⟨w.heap.size + 1, 0, none⟩, .slice none 0 0, rfl, Nat.le_succ _, ⟨hc 0, hc 1, hc 2, hc 3, hc 4, hc 5, hc 6⟩, hds_nil _ _⟩
 | succ k => simp [simB] at hk
end
end Go.Proofs.YtfdhofabgdkkkaaGreatDoor
