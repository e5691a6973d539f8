/- Headers, records, batches: what a value, or a place of memory, reads as. -/
import Derived.Test.YtfdhofabgdkkkaaGreatDoorQ1
import Derived.Test.YtfdhofabgdkkkaaGreatDoorQ2
namespace Go.Fm
open Go.RowKit
structure Hdr where
 key : ByteArray
 val : ByteArray
structure Rec where
 at' : Int
 tm : Int
 bare : Bool
 key : ByteArray
 gone : Bool
 val : ByteArray
 hs : List Hdr
structure Bat where
 base : Int
 span : Int
 prod : Int
 epoch : Int
 seq : Int
 recs : List Rec
theorem add_block (a : Addr) (n : Nat) : (a.add n).block = a.block := by unfold Addr.add; split <;> rfl
/-- A slice of headers. K: the blocks that may be visited. -/
def HdsR (K : Nat → Prop) (w : World) (v : Value) (hs : List Hdr) : Prop :=
 ∃ oa cap, v = .slice oa hs.length cap ∧ ∀ k h, hs[k]? = some h → ∃ a, oa = some a ∧ K a.block ∧
  w.cell? (a.add (k * 2)) = some (.string h.key) ∧ w.cell? ⟨(a.add (k * 2)).block, (a.add (k * 2)).off + 1, none⟩ = some (.string h.val)
def recCells (r : Rec) (hv : Value) : List Value := [.int .i64 r.at', .int .i64 r.tm, .bool r.bare, .string r.key, .bool r.gone, .string r.val, hv]
def recV (r : Rec) (hv : Value) : Value := .agg #[.int .i64 r.at', .int .i64 r.tm, .bool r.bare, .string r.key, .bool r.gone, .string r.val, hv]
/-- A record's cells at a place. -/
structure RecAt (w : World) (p : Addr) (r : Rec) (hv : Value) : Prop where
 c0 : w.cell? p = some (.int .i64 r.at')
 c1 : w.cell? ⟨p.block, p.off + 1, none⟩ = some (.int .i64 r.tm)
 c2 : w.cell? ⟨p.block, p.off + 2, none⟩ = some (.bool r.bare)
 c3 : w.cell? ⟨p.block, p.off + 3, none⟩ = some (.string r.key)
 c4 : w.cell? ⟨p.block, p.off + 4, none⟩ = some (.bool r.gone)
 c5 : w.cell? ⟨p.block, p.off + 5, none⟩ = some (.string r.val)
 c6 : w.cell? ⟨p.block, p.off + 6, none⟩ = some hv
def RecsR (K : Nat → Prop) (w : World) (v : Value) (rs : List Rec) : Prop :=
 ∃ oa cap, v = .slice oa rs.length cap ∧ ∀ k r, rs[k]? = some r → ∃ a hv, oa = some a ∧ K a.block ∧ RecAt w (a.add (k * 7)) r hv ∧ HdsR K w hv r.hs
def batV (b : Bat) (rv : Value) : Value := .agg #[.int .i64 b.base, .int .i64 b.span, .int .i64 b.prod, .int .i64 b.epoch, .int .i64 b.seq, rv]
def batCells (b : Bat) (rv : Value) : List Value := [.int .i64 b.base, .int .i64 b.span, .int .i64 b.prod, .int .i64 b.epoch, .int .i64 b.seq, rv]
structure BatAt (w : World) (p : Addr) (b : Bat) (rv : Value) : Prop where
 c0 : w.cell? p = some (.int .i64 b.base)
 c1 : w.cell? ⟨p.block, p.off + 1, none⟩ = some (.int .i64 b.span)
 c2 : w.cell? ⟨p.block, p.off + 2, none⟩ = some (.int .i64 b.prod)
 c3 : w.cell? ⟨p.block, p.off + 3, none⟩ = some (.int .i64 b.epoch)
 c4 : w.cell? ⟨p.block, p.off + 4, none⟩ = some (.int .i64 b.seq)
 c5 : w.cell? ⟨p.block, p.off + 5, none⟩ = some rv
def BatsR (K : Nat → Prop) (w : World) (v : Value) (bs : List Bat) : Prop :=
 ∃ oa cap, v = .slice oa bs.length cap ∧ ∀ k b, bs[k]? = some b → ∃ a rv, oa = some a ∧ K a.block ∧ BatAt w (a.add (k * 6)) b rv ∧ RecsR K w rv b.recs
section
variable {K K' : Nat → Prop} {w w' : World}
theorem cell_keep {a : Addr} {v : Value} (hc : w.cell? a = some v) (hk : w'.heap[a.block]? = w.heap[a.block]?) : w'.cell? a = some v := (World.cell?_of_block (w := w) hk).trans hc
theorem RecAt.lt {p : Addr} {r : Rec} {hv : Value} (h : RecAt w p r hv) : p.block < w.heap.size := World.block_lt_of_cell? w p h.c0
theorem BatAt.lt {p : Addr} {r : Bat} {hv : Value} (h : BatAt w p r hv) : p.block < w.heap.size := World.block_lt_of_cell? w p h.c0
theorem RecAt.to {p : Addr} {r : Rec} {hv : Value} (h : RecAt w p r hv) (hk : w'.heap[p.block]? = w.heap[p.block]?) : RecAt w' p r hv :=
 ⟨cell_keep h.c0 hk, cell_keep h.c1 hk, cell_keep h.c2 hk, cell_keep h.c3 hk, cell_keep h.c4 hk, cell_keep h.c5 hk, cell_keep h.c6 hk⟩
theorem BatAt.to {p : Addr} {r : Bat} {hv : Value} (h : BatAt w p r hv) (hk : w'.heap[p.block]? = w.heap[p.block]?) : BatAt w' p r hv :=
 ⟨cell_keep h.c0 hk, cell_keep h.c1 hk, cell_keep h.c2 hk, cell_keep h.c3 hk, cell_keep h.c4 hk, cell_keep h.c5 hk⟩
theorem HdsR.to {v : Value} {hs : List Hdr} (h : HdsR K w v hs) (hk : ∀ b, K b → b < w.heap.size → K' b ∧ w'.heap[b]? = w.heap[b]?) : HdsR K' w' v hs := by
 obtain ⟨oa, cap, hv, h⟩ := h
 refine ⟨oa, cap, hv, fun k x hx => ?_⟩
 obtain ⟨a, ha, hK, c0, c1⟩ := h k x hx
 have hl := World.block_lt_of_cell? w _ c0
 rw [add_block] at hl
 obtain ⟨h1, h2⟩ := hk _ hK hl
 exact ⟨a, ha, h1, cell_keep c0 (by rw [add_block]; exact h2), cell_keep c1 (by rw [add_block]; exact h2)⟩
theorem RecsR.to {v : Value} {rs : List Rec} (h : RecsR K w v rs) (hk : ∀ b, K b → b < w.heap.size → K' b ∧ w'.heap[b]? = w.heap[b]?) : RecsR K' w' v rs := by
 obtain ⟨oa, cap, hv, h⟩ := h
 refine ⟨oa, cap, hv, fun k x hx => ?_⟩
 obtain ⟨a, u, ha, hK, hc, hh⟩ := h k x hx
 have hl := hc.lt
 rw [add_block] at hl
 obtain ⟨h1, h2⟩ := hk _ hK hl
 exact ⟨a, u, ha, h1, hc.to (by rw [add_block]; exact h2), hh.to hk⟩
theorem BatsR.to {v : Value} {bs : List Bat} (h : BatsR K w v bs) (hk : ∀ b, K b → b < w.heap.size → K' b ∧ w'.heap[b]? = w.heap[b]?) : BatsR K' w' v bs := by
 obtain ⟨oa, cap, hv, h⟩ := h
 refine ⟨oa, cap, hv, fun k x hx => ?_⟩
 obtain ⟨a, u, ha, hK, hc, hh⟩ := h k x hx
 have hl := hc.lt
 rw [add_block] at hl
 obtain ⟨h1, h2⟩ := hk _ hK hl
 exact ⟨a, u, ha, h1, hc.to (by rw [add_block]; exact h2), hh.to hk⟩
theorem HdsR.fr {v : Value} {hs : List Hdr} {S : Nat → Prop} (h : HdsR K w v hs) (hf : Fr S w w') (hd : ∀ k, K k → ¬ S k) : HdsR K w' v hs := h.to fun b hb hl => ⟨hb, hf.block b hl (hd b hb)⟩
theorem RecsR.fr {v : Value} {hs : List Rec} {S : Nat → Prop} (h : RecsR K w v hs) (hf : Fr S w w') (hd : ∀ k, K k → ¬ S k) : RecsR K w' v hs := h.to fun b hb hl => ⟨hb, hf.block b hl (hd b hb)⟩
theorem BatsR.fr {v : Value} {hs : List Bat} {S : Nat → Prop} (h : BatsR K w v hs) (hf : Fr S w w') (hd : ∀ k, K k → ¬ S k) : BatsR K w' v hs := h.to fun b hb hl => ⟨hb, hf.block b hl (hd b hb)⟩
/-- .. where nothing that was there has turned. -/
theorem HdsR.old {v : Value} {hs : List Hdr} (h : HdsR K w v hs) (hf : Fr (fun _ => False) w w') : HdsR K w' v hs := h.fr hf fun _ _ h => h
theorem RecsR.old {v : Value} {hs : List Rec} (h : RecsR K w v hs) (hf : Fr (fun _ => False) w w') : RecsR K w' v hs := h.fr hf fun _ _ h => h
theorem BatsR.old {v : Value} {hs : List Bat} (h : BatsR K w v hs) (hf : Fr (fun _ => False) w w') : BatsR K w' v hs := h.fr hf fun _ _ h => h
theorem HdsR.mono {v : Value} {hs : List Hdr} (h : HdsR K w v hs) (hk : ∀ b, K b → b < w.heap.size → K' b) : HdsR K' w v hs := h.to fun b hb hl => ⟨hk b hb hl, rfl⟩
theorem RecsR.mono {v : Value} {hs : List Rec} (h : RecsR K w v hs) (hk : ∀ b, K b → b < w.heap.size → K' b) : RecsR K' w v hs := h.to fun b hb hl => ⟨hk b hb hl, rfl⟩
theorem BatsR.mono {v : Value} {hs : List Bat} (h : BatsR K w v hs) (hk : ∀ b, K b → b < w.heap.size → K' b) : BatsR K' w v hs := h.to fun b hb hl => ⟨hk b hb hl, rfl⟩
end
theorem Fr.tr {a b c : World} (h : Fr (fun _ => False) a b) (k : Fr (fun _ => False) b c) : Fr (fun _ => False) a c := h.trans k fun _ h => h.elim
theorem Fr.same (w : World) : Fr (fun _ => False) w w := Fr.refl _ w
/-- A cell of what was there. -/
theorem Fr.cel {a b : World} (h : Fr (fun _ => False) a b) {p : Addr} {v : Value} (hc : a.cell? p = some v) : b.cell? p = some v := h.cell hc fun h => h
/-- A call that leaves what was there, in a drawn region. -/
theorem quietly {P : Program} {f : FuncId} {args : Array Value} {W : World} {v : Value} (y : Lcl.InS (fun w' => Fr (fun _ => False) W w'))
  (h : Calls P f args y.w fun e w' => e = .returned v ∧ Fr (fun _ => False) y.w w') : Calls P f args y.w fun e w' => e = .returned v ∧ ∃ y : Lcl.InS (fun w' => Fr (fun _ => False) W w'), w' = y.w :=
 h.mono fun _ w' ⟨he, hf⟩ => ⟨he, ⟨w', y.h.tr hf⟩, rfl⟩
theorem get_of_lt {α : Type} {l : List α} {k : Nat} (h : k < l.length) : ∃ x, l[k]? = some x := ⟨_, List.getElem?_eq_getElem h⟩
end Go.Fm
