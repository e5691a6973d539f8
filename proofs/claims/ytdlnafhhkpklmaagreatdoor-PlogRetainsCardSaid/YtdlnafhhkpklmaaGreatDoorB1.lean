/- How many bytes a small batch has: plain laws. -/
import Derived.Test.YtdlnafhhkpklmaaGreatDoorGE
import Derived.Test.YtdlnafhhkpklmaaGreatDoorF1
namespace Go.Proofs.YtdlnafhhkpklmaaGreatDoor
open Go.RowKit Go.Fm Go.BigFrame Go.Shelf Go.Maps
set_option linter.unusedVariables false
set_option linter.unusedSimpArgs false

theorem encTo_small {r : Rec} (h : RecOK r) : ∀ k, k ≤ r.hs.length → (encTo r k).size ≤ 60 + r.key.size + r.val.size + hdrsW (r.hs.take k) + 20 * k
  | 0, _ => by
    have wa : (Lit.int .i64 r.at').wf = true := by have := h.at0; have := h.at1; simp [Lit.wf, IntKind.min, IntKind.max, IntKind.signed, IntKind.bits]; omega
    have wt : (Lit.int .i64 r.tm).wf = true := by have := h.tm0; have := h.tm1; simp [Lit.wf, IntKind.min, IntKind.max, IntKind.signed, IntKind.bits]; omega
    have wf : (Lit.int .i64 (flagsOf r)).wf = true := by unfold flagsOf; cases r.bare <;> cases r.gone <;> decide
    have hk := h.key
    have hv := h.val
    have hl := h.hs
    have sa := putS_size wa
    have st := putS_size wt
    have sf := putS_size wf
    have sl := putS_size (len_wf (show r.hs.length ≤ 1000000000 by omega))
    have sk := textS_size (show r.key.size ≤ 1000000000 by omega)
    have sv := textS_size (show r.val.size ≤ 1000000000 by omega)
    show (encHead r).size ≤ _
    unfold encHead
    rw [ByteArray.size_append, ByteArray.size_append, ByteArray.size_append, ByteArray.size_append, ByteArray.size_append]
    omega
  | k + 1, hk => by
    obtain ⟨x, hx⟩ := get_of_lt (show k < r.hs.length by omega)
    have ih := encTo_small h k (by omega)
    obtain ⟨h1, h2, h3⟩ := h.hdrs x (List.mem_of_getElem? hx)
    have sk := textS_size (show x.key.size ≤ 1000000000 by omega)
    have sv := textS_size (show x.val.size ≤ 1000000000 by omega)
    rw [take_snoc' hx, hdrsW_snoc]
    simp only [encTo, hx]
    rw [ByteArray.size_append, ByteArray.size_append]
    unfold hdrW
    omega
theorem encS_small {r : Rec} (h : RecOK r) : (encS r).size ≤ recW r + 260 := by
  have h1 := encTo_small h r.hs.length (Nat.le_refl _)
  have h2 := h.hs
  rw [List.take_length] at h1
  unfold encS recW
  omega
theorem bodyTo_small {b : Bat} (h : BatOK b) : ∀ k, k ≤ b.recs.length → (bodyTo b k).size ≤ 60 + recsW (b.recs.take k) + 260 * k
  | 0, _ => by
    have NU := nums_of h.base0 h.base1 h.span0 h.span1 h.who h.len
    have wl : (Lit.int .i64 (b.recs.length : Int)).wf = true := len_wf (by have := h.len; omega)
    have s1 := putS_size NU.base
    have s2 := putS_size NU.span
    have s3 := putS_size NU.prod
    have s4 := putS_size NU.epoch
    have s5 := putS_size NU.seq
    have s6 := putS_size wl
    show (bodyHead b).size ≤ _
    unfold bodyHead
    rw [ByteArray.size_append, ByteArray.size_append, ByteArray.size_append, ByteArray.size_append, ByteArray.size_append]
    omega
  | k + 1, hk => by
    obtain ⟨x, hx⟩ := get_of_lt (show k < b.recs.length by omega)
    have ih := bodyTo_small h k (by omega)
    have h1 := encS_small (h.recs k x hx).ok
    rw [take_snoc' hx, recsW_snoc]
    simp only [bodyTo, hx]
    rw [ByteArray.size_append]
    omega
/-- A small batch has at most 16068 bytes. -/
theorem bsz_small {b : Bat} (h : BatOK b) (hs : SmallB b) : bsz b ≤ 16068 := by
  have h1 := bodyTo_small h b.recs.length (Nat.le_refl _)
  have h2 := hs.weight
  have h3 := h.len
  rw [List.take_length] at h1
  unfold bsz
  rw [batS_size]
  unfold bodyS
  omega
theorem SmallB.recs_eq {b b' : Bat} (h : SmallB b) (e : b'.recs = b.recs) : SmallB b' := ⟨by rw [e]; exact h.len, by rw [e]; exact h.recs, by rw [e]; exact h.weight⟩
end Go.Proofs.YtdlnafhhkpklmaaGreatDoor
