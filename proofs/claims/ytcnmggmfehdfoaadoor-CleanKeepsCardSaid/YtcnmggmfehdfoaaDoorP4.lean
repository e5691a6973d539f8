/- The body of a batch, who, Check of a batch: the walks. -/
import Derived.Test.YtcnmggmfehdfoaaDoorP3
namespace Go.Proofs.YtcnmggmfehdfoaaDoor
open Go.RowKit Go.Fm Go.BigFrame
set_option linter.unusedVariables false
set_option linter.unusedSimpArgs false

theorem encTo_size {r : Rec} (h : RecOK r) : ∀ k, k ≤ r.hs.length → (encTo r k).size ≤ 3000 + 2100 * k
  | 0, _ => by
    have wa : (Lit.int .i64 r.at').wf = true := by have := h.at0; have := h.at1; simp [Lit.wf, IntKind.min, IntKind.max, IntKind.signed, IntKind.bits]; omega
    have wt : (Lit.int .i64 r.tm).wf = true := by have := h.tm0; have := h.tm1; simp [Lit.wf, IntKind.min, IntKind.max, IntKind.signed, IntKind.bits]; omega
    have wf : (Lit.int .i64 (flagsOf r)).wf = true := by unfold flagsOf; cases r.bare <;> cases r.gone <;> decide
    have hk := h.key
    have hv := h.val
    have hl := h.hs
    have sa := putS_size wa
    have st := putS_size wt
    have sf := putS_size wf
    have sl := putS_size (len_wf (show r.hs.length ≤ 1000000000 by omega))
    have sk := textS_size (show r.key.size ≤ 1000000000 by omega)
    have sv := textS_size (show r.val.size ≤ 1000000000 by omega)
    show (encHead r).size ≤ _
    unfold encHead
    rw [ByteArray.size_append, ByteArray.size_append, ByteArray.size_append, ByteArray.size_append, ByteArray.size_append]
    omega
  | k + 1, hk => by
    obtain ⟨x, hx⟩ := get_of_lt (show k < r.hs.length by omega)
    have ih := encTo_size h k (by omega)
    obtain ⟨h1, h2, h3⟩ := h.hdrs x (List.mem_of_getElem? hx)
    have sk := textS_size (show x.key.size ≤ 1000000000 by omega)
    have sv := textS_size (show x.val.size ≤ 1000000000 by omega)
    simp only [encTo, hx]
    rw [ByteArray.size_append, ByteArray.size_append]
    omega
theorem encS_size {r : Rec} (h : RecOK r) : (encS r).size ≤ 24000 := by
  have := encTo_size h r.hs.length (Nat.le_refl _)
  have := h.hs
  unfold encS
  omega

def bodyHead (b : Bat) : ByteArray := putS b.base ++ putS b.span ++ putS b.prod ++ putS b.epoch ++ putS b.seq ++ putS b.recs.length
def bodyTo (b : Bat) : Nat → ByteArray
  | 0 => bodyHead b
  | k + 1 => match b.recs[k]? with
    | some r => bodyTo b k ++ encS r
    | none => bodyTo b k
def bodyS (b : Bat) : ByteArray := bodyTo b b.recs.length
/-- The numbers of a batch fit. -/
structure Nums (b : Bat) : Prop where
  base : (Lit.int .i64 b.base).wf = true
  span : (Lit.int .i64 b.span).wf = true
  prod : (Lit.int .i64 b.prod).wf = true
  epoch : (Lit.int .i64 b.epoch).wf = true
  seq : (Lit.int .i64 b.seq).wf = true
  len : b.recs.length ≤ 50

set_option maxRecDepth 100000 in
set_option maxHeartbeats 1000000 in
theorem body_walk (K : Nat → Prop) (b : Bat) (v : Value) (w : World) (h : RecsR K w v b.recs) (hn : Nums b) (hr : ∀ r ∈ b.recs, RecOK r) :
    Calls Tryd.prog 33 #[batV b v] w fun e w' => e = .returned (.string (bodyS b)) ∧ Fr (fun _ => False) w w' := by
  obtain ⟨oa, cap, rfl, h⟩ := h
  have H := Lib.hid h
  have hlen := hn.len
  clear h
  have hf0 := (Fr.same w).alloc (.cells (batCells b (.slice oa b.recs.length cap)).toArray 29)
  have dd := fun j => cell_alloc_new w (batCells b (.slice oa b.recs.length cap)).toArray 29 j
  have s0 := putS_size hn.base
  have s1 := putS_size hn.span
  have s2 := putS_size hn.prod
  have s3 := putS_size hn.epoch
  have s4 := putS_size hn.seq
  have wl := len_wf (show b.recs.length ≤ 1000000000 by omega)
  have s5 := putS_size wl
  have w0 := hn.base
  have w1 := hn.span
  have w2 := hn.prod
  have w3 := hn.epoch
  have w4 := hn.seq
  have HR := Lib.hid hr
  clear hr hn
  unfold batCells at hf0 dd
  unfold batV
  have DD := Lib.hid dd
  have F0 := Lib.hid hf0
  clear dd hf0
  go_enter Tryd.func33, Tryd.ntmps33
  go_wp2_with fail
  generalize (w.alloc (.cells #[.int .i64 b.base, .int .i64 b.span, .int .i64 b.prod, .int .i64 b.epoch, .int .i64 b.seq, .slice oa b.recs.length cap] 29)) = W2 at *
  have d : ∀ (j : Nat) (u : Value), (#[.int .i64 b.base, .int .i64 b.span, .int .i64 b.prod, .int .i64 b.epoch, .int .i64 b.seq, .slice oa b.recs.length cap] : Array Value)[j]? = some u → W2.cell? ⟨w.heap.size, j, none⟩ = some u := fun j u hj => (DD.out j).trans hj
  have D := Lib.hid d
  clear d
  have x0 : ∀ y : Lcl.InS (fun w' => Fr (fun _ => False) W2 w'), y.w.cell? ⟨w.heap.size, 0, none⟩ = some (.int .i64 b.base) := fun y => y.h.cel (D.out 0 _ rfl)
  have x1 : ∀ y : Lcl.InS (fun w' => Fr (fun _ => False) W2 w'), y.w.cell? ⟨w.heap.size, 1, none⟩ = some (.int .i64 b.span) := fun y => y.h.cel (D.out 1 _ rfl)
  have x2 : ∀ y : Lcl.InS (fun w' => Fr (fun _ => False) W2 w'), y.w.cell? ⟨w.heap.size, 2, none⟩ = some (.int .i64 b.prod) := fun y => y.h.cel (D.out 2 _ rfl)
  have x3 : ∀ y : Lcl.InS (fun w' => Fr (fun _ => False) W2 w'), y.w.cell? ⟨w.heap.size, 3, none⟩ = some (.int .i64 b.epoch) := fun y => y.h.cel (D.out 3 _ rfl)
  have x4 : ∀ y : Lcl.InS (fun w' => Fr (fun _ => False) W2 w'), y.w.cell? ⟨w.heap.size, 4, none⟩ = some (.int .i64 b.seq) := fun y => y.h.cel (D.out 4 _ rfl)
  have x5 : ∀ y : Lcl.InS (fun w' => Fr (fun _ => False) W2 w'), y.w.cell? ⟨w.heap.size, 5, none⟩ = some (.slice oa b.recs.length cap) := fun y => y.h.cel (D.out 5 _ rfl)
  have fput : ∀ (n : Int), (Lit.int .i64 n).wf = true → ∀ y : Lcl.InS (fun w' => Fr (fun _ => False) W2 w'), Calls Tryd.prog 38 #[.int .i64 n] y.w fun e w' => e = .returned (.string (putS n)) ∧ ∃ y : Lcl.InS (fun w' => Fr (fun _ => False) W2 w'), w' = y.w := fun n hn y => quietly y (put_walk n _ hn)
  have a1 := fun w => strAdd w (putS b.base) (putS b.span) (by omega)
  have a2 := fun w => strAdd w (putS b.base ++ putS b.span) (putS b.prod) (by rw [ByteArray.size_append]; omega)
  have a3 := fun w => strAdd w (putS b.base ++ putS b.span ++ putS b.prod) (putS b.epoch) (by rw [ByteArray.size_append, ByteArray.size_append]; omega)
  have a4 := fun w => strAdd w (putS b.base ++ putS b.span ++ putS b.prod ++ putS b.epoch) (putS b.seq) (by rw [ByteArray.size_append, ByteArray.size_append, ByteArray.size_append]; omega)
  have a5 := fun w => strAdd w (putS b.base ++ putS b.span ++ putS b.prod ++ putS b.epoch ++ putS b.seq) (putS b.recs.length) (by rw [ByteArray.size_append, ByteArray.size_append, ByteArray.size_append, ByteArray.size_append]; omega)
  have hs0 : (bodyHead b).size ≤ 3000 := by unfold bodyHead; rw [ByteArray.size_append, ByteArray.size_append, ByteArray.size_append, ByteArray.size_append, ByteArray.size_append]; omega
  have HS0 := Lib.hid hs0
  have HH := Lib.hid (show bodyHead b = _ from rfl)
  unfold bodyHead at HH
  clear hs0
  refine wp_region_quiet (C := fun w' => ∃ y : Lcl.InS (fun w' => Fr (fun _ => False) W2 w'), w' = y.w) (by kernel_rfl) (by kernel_rfl) ⟨⟨W2.drew, (Fr.same W2).drew⟩, rfl⟩ ?_
  dsimp only
  repeat (go_big_quiet_step (first | with_reducible rfl | exact fput _ (by assumption) _))
  refine wpQuiet_nil ?_
  rintro _ ⟨y, rfl⟩
  have F3 := Lib.hid (F0.out.tr y.h)
  have D53 := Lib.hid (x5 y)
  rw [show putS b.base ++ putS b.span ++ putS b.prod ++ putS b.epoch ++ putS b.seq ++ putS b.recs.length = bodyTo b 0 from rfl]
  clear x0 x1 x2 x3 x4 x5 fput a1 a2 a3 a4 a5 w0 w1 w2 w3 w4 wl s0 s1 s2 s3 s4 s5 HH
  generalize y.w = W3 at *
  clear y
  go_wp2_with fail
  go_loopw [3, 4] (fun sv iv wr => ∃ k : Nat, iv = .int .i64 k ∧ k ≤ b.recs.length ∧ sv = .string (bodyTo b k) ∧ (bodyTo b k).size ≤ 3000 + 24000 * k ∧ Fr (fun _ => False) W3 wr) (fun _ iv _ => b.recs.length - (intOf iv).toNat)
  case atStart => exact ⟨0, rfl, Nat.zero_le _, rfl, HS0.out, Fr.same _⟩
  case round =>
    obtain ⟨k, rfl, hk, rfl, hsz3, hf⟩ := hrel
    have F := Lib.hid hf
    have d5 := hf.cel D53.out
    clear hf
    rcases Nat.lt_or_ge k b.recs.length with hlt | hge
    · obtain ⟨x, hx⟩ := get_of_lt hlt
      obtain ⟨a, hv, rfl, -, hc, hh⟩ := H.out k x hx
      have hnext : bodyTo b (k + 1) = bodyTo b k ++ encS x := by simp [bodyTo, hx]
      have hok := HR.out x (List.mem_of_getElem? hx)
      have hes := encS_size hok
      obtain ⟨ha, hcap, rfl, -⟩ := id hh
      obtain ⟨e0, e1, e2, e3, e4, e5, e6⟩ := hc.to ((F3.out.tr F.out).block _ hc.lt fun h => h)
      have HE := Lib.hid (hh.old (F3.out.tr F.out))
      have HN := Lib.hid hnext
      have HOK := Lib.hid hok
      clear hx hnext hc hh hok
      have a1 := fun w => strAdd w (bodyTo b k) (encS x) (by omega)
      go_wp2_with fail
      refine (encode_walk K x _ _ HE.out HOK.out).mono ?_
      rintro e w5 ⟨rfl, hf5⟩
      have F5 := Lib.hid (F.out.tr hf5)
      clear hf5 e0 e1 e2 e3 e4 e5 e6
      go_wp2_with fail
      go_roundw
      case rel => exact ⟨k + 1, by go_num, by omega, by rw [HN.out], by rw [HN.out, ByteArray.size_append]; omega, F5.out⟩
      case measure => simp [intOf]; omega
    · have hS : bodyTo b k = bodyS b := by obtain rfl : k = b.recs.length := by omega
                                           rfl
      rw [hS]
      clear hS
      go_wp2_with fail
      go_ret
      exact ⟨rfl, F3.out.tr F.out⟩
theorem bodyTo_size {b : Bat} (hn : Nums b) (hr : ∀ r ∈ b.recs, RecOK r) : ∀ k, k ≤ b.recs.length → (bodyTo b k).size ≤ 3000 + 24000 * k
  | 0, _ => by
    have s0 := putS_size hn.base
    have s1 := putS_size hn.span
    have s2 := putS_size hn.prod
    have s3 := putS_size hn.epoch
    have s4 := putS_size hn.seq
    have s5 := putS_size (len_wf (show b.recs.length ≤ 1000000000 by have := hn.len; omega))
    show (bodyHead b).size ≤ _
    unfold bodyHead
    rw [ByteArray.size_append, ByteArray.size_append, ByteArray.size_append, ByteArray.size_append, ByteArray.size_append]
    omega
  | k + 1, hk => by
    obtain ⟨x, hx⟩ := get_of_lt (show k < b.recs.length by omega)
    have ih := bodyTo_size hn hr k (by omega)
    have hes := encS_size (hr x (List.mem_of_getElem? hx))
    simp only [bodyTo, hx]
    rw [ByteArray.size_append]
    omega
end Go.Proofs.YtcnmggmfehdfoaaDoor
