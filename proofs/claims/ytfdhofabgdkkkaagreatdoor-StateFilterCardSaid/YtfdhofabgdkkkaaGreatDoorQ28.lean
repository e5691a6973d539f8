/- Copies of headers, records, batches (slices.Clone, segment.copied): the walks. -/
import Derived.Test.YtfdhofabgdkkkaaGreatDoorQ23
import Derived.Test.YtfdhofabgdkkkaaGreatDoorQ27
namespace Go.Proofs.YtfdhofabgdkkkaaGreatDoor
open Go.RowKit Go.Fm Go.BigFrame
set_option linter.unusedVariables false
set_option linter.unusedSimpArgs false
set_option maxRecDepth 100000
theorem list_of_lt {α : Type} {p : Nat → α → Prop} : ∀ {n : Nat}, (∀ i, i < n → ∃ x, p i x) → ∃ l : List α, l.length = n ∧ ∀ i x, l[i]? = some x → p i x
 | 0, _ => ⟨[], rfl, fun i x h => by simp at h⟩
 | n + 1, h => by
  obtain ⟨l, hl, hp⟩ := list_of_lt (n := n) fun i hi => h i (by omega)
  obtain ⟨x, hx⟩ := h n (by omega)
  refine ⟨l ++ [x], by simp [hl], fun i y hy => ?_⟩
  rcases Nat.lt_or_ge i n with h1 | h1
  ·rw [List.getElem?_append_left (by omega)] at hy
   exact hp i y hy
  ·rw [List.getElem?_append_right (by omega)] at hy
   have h2 := (List.getElem?_eq_some_iff.1 hy).1
   simp at h2
   have h3 : i = n := by omega
   subst h3
   rw [hl, Nat.sub_self] at hy
   simp at hy
   subst hy
   exact hx
theorem hds_none {K : Nat → Prop} {w : World} {n cap : Nat} {hs : List Hdr} (h : HdsR K w (.slice none n cap) hs) : hs = [] ∧ n = 0 := by
 obtain ⟨oa, cap', hv, h⟩ := h
 injection hv with e1 e2 e3
 subst e1
 cases hs with
 | nil => exact ⟨rfl, by simpa using e2⟩
 | cons x l =>
  obtain ⟨a, ha, -⟩ := h 0 x rfl
  cases ha
theorem hds_nil {K : Nat → Prop} (w : World) (n : Nat) : HdsR K w (.slice none 0 n) [] := ⟨none, n, rfl, fun k h hk => by simp at hk⟩
theorem recs_nil {K : Nat → Prop} (w : World) (n : Nat) : RecsR K w (.slice none 0 n) [] := ⟨none, n, rfl, fun k h hk => by simp at hk⟩
theorem hdr_cells_one (hs : List Hdr) : ∀ u ∈ hs.flatMap hdrCells, u.oneCell' = true := by
 intro u hu
 obtain ⟨x, -, hx⟩ := List.mem_flatMap.1 hu
 simp only [hdrCells, List.mem_cons, List.not_mem_nil, or_false] at hx
 rcases hx with rfl | rfl <;> rfl
def HdsPost (w : World) (hs : List Hdr) (e : Ending) (w' : World) : Prop := ∃ v, e = .returned v ∧ HdsR (fun b => w.heap.size ≤ b) w' v hs ∧ Fr (fun _ => False) w w'
/-- 'slices.Clone' of headers. -/
theorem hclone_walk (K : Nat → Prop) (hs : List Hdr) (v : Value) (w : World) (h : HdsR K w v hs) (hl : hs.length ≤ 1000) :
  Calls Tryz.prog 49 #[v] w (HdsPost w hs) := by
 obtain ⟨i, hi, hz, h1, h2⟩ := info_parts info55
 have hh := h
 obtain ⟨oa, cap, rfl, -⟩ := hh
 cases oa with
 | none =>
  obtain ⟨rfl, -⟩ := hds_none h
  have hnil : ∀ w, (binOp .eql 93 (.slice none 0 cap) (.slice none 0 0)).run Tryz.prog w = .ok (.bool true) w := fun w => Lib.run_eql_slice_nil (P := Tryz.prog) w 93 97 none 0 cap 0 0 Tryz.underlying93
  clear h
  go_enter Tryz.func49, Tryz.ntmps49
  go_wp2_with fail
  go_ret
  exact ⟨_, rfl, hds_nil _ _, Fr.same _⟩
 | some a =>
  have hnil : ∀ w, (binOp .eql 93 (.slice (some a) hs.length cap) (.slice none 0 0)).run Tryz.prog w = .ok (.bool false) w := fun w => Lib.run_eql_slice_nil (P := Tryz.prog) w 93 97 (some a) hs.length cap 0 0 Tryz.underlying93
  have H := Lib.hid h
  obtain ⟨-, hcells⟩ := hds_cells h
  have HC := Lib.hid hcells
  have hown : (w.alloc (.cells #[] 97)).ownsRow w.heap.size 97 2 (.slice (some ⟨w.heap.size, 0, none⟩) 0 0) 0 [] :=
   ⟨rfl, .inr ⟨w.heap.size, 0, #[], rfl, Nat.le_refl _, heap_alloc_self _ _, Nat.le_refl _, Nat.zero_le _, rfl, rfl⟩⟩
  have HO := Lib.hid hown
  have hf := (Fr.same w).alloc (.cells #[] 97)
  have HF := Lib.hid hf
  clear h hcells hown hf
  go_enter Tryz.func49, Tryz.ntmps49
  go_wp2_with (at_builtin; refine wpList_append_own2 _ rfl (.tmp 5) (.tmp 6) 93 rfl w.heap.size 97 i _ 2 32 Tryz.underlying93 hi hz h1 h2 rfl (by decide) _ 0 [] rfl HO.out a hs.length cap (hs.flatMap hdrCells) rfl (flat_len hdrCells 2 hdr_n hs) ?c1 (hdr_cells_one hs) ?c3 ?c4 HF.out.size ?_)
  case c1 => exact fun j u hj => HF.out.cel (HC.out j u hj)
  case c3 => unfold maxLen; omega
  case c4 => omega
  intro v' w' ho hg hb
  have hfr : Fr (fun _ => False) w w' := HF.out.grown hg fun k hk => .inr (by simp [Value.ownBlock] at hk; omega)
  have hr := hds_of_own ho rfl
  have HR := Lib.hid hr
  have HF2 := Lib.hid hfr
  clear ho hg hb hfr hr
  go_wp2_with fail
  go_ret
  exact ⟨_, rfl, HR.out.mono fun b hb _ => hb.1, HF2.out⟩
end Go.Proofs.YtfdhofabgdkkkaaGreatDoor
/- The filter that lets all through, on records: lets, Match, Pick. -/
namespace Go.Proofs.YtfdhofabgdkkkaaGreatDoor
open Go.RowKit Go.Fm Go.BigFrame Go.Shelf Go.Maps
set_option linter.unusedVariables false
set_option linter.unusedSimpArgs false
set_option maxRecDepth 100000
section
variable {w w' : World} {S : Nat → Prop}
set_option maxHeartbeats 16000000 in
theorem lets_zero (r : Rec) (oa : Option Addr) (n cap : Nat) : Calls Tryz.prog 94 #[.agg #[.int .i64 0, .string ⟨#[]⟩, .string ⟨#[]⟩, .slice none 0 0], recV r (.slice oa n cap)] w fun e w' => e = .returned (.bool true) ∧ Fr (fun _ => False) w w' := by
 have f1 := ((Fr.same w).alloc (.cells #[.int .i64 0, .string ⟨#[]⟩, .string ⟨#[]⟩, .slice none 0 0] 38)).alloc (.cells #[.int .i64 r.at', .int .i64 r.tm, .bool r.bare, .string r.key, .bool r.gone, .string r.val, .slice oa n cap] 95)
 have F1 := Lib.hid f1
 have X0 := (heap_alloc_lt (.cells #[.int .i64 r.at', .int .i64 r.tm, .bool r.bare, .string r.key, .bool r.gone, .string r.val, .slice oa n cap] 95) (lt_of_heap (heap_alloc_self w (.cells #[.int .i64 0, .string ⟨#[]⟩, .string ⟨#[]⟩, .slice none 0 0] 38)))).trans (heap_alloc_self w (.cells #[.int .i64 0, .string ⟨#[]⟩, .string ⟨#[]⟩, .slice none 0 0] 38))
 have d0 := fun j => cell_of X0 j
 clear X0 f1
 unfold recV
 go_enter Tryz.func94, Tryz.ntmps94
 go_wp2_with fail
 go_ret
 exact ⟨rfl, F1.out⟩
set_option maxHeartbeats 16000000 in
theorem match_zero (K : Nat → Prop) (r : Rec) (oa : Option Addr) (n cap : Nat) (h : HdsR K w (.slice oa n cap) r.hs) (hr : RecOK r) : Calls Tryz.prog 48 #[.agg #[.int .i64 0, .string ⟨#[]⟩, .string ⟨#[]⟩, .slice none 0 0], recV r (.slice oa n cap)] w fun e w' => e = .returned (.tuple #[.bool true, .int .i64 0]) ∧ Fr (fun _ => False) w w' := by
 have f1 := ((Fr.same w).alloc (.cells #[.int .i64 0, .string ⟨#[]⟩, .string ⟨#[]⟩, .slice none 0 0] 38)).alloc (.cells #[.int .i64 r.at', .int .i64 r.tm, .bool r.bare, .string r.key, .bool r.gone, .string r.val, .slice oa n cap] 95)
 have F1 := Lib.hid f1
 have H1 := Lib.hid (h.old f1)
 have s1 : (w.alloc (.cells #[.int .i64 0, .string ⟨#[]⟩, .string ⟨#[]⟩, .slice none 0 0] 38)).heap.size = w.heap.size + 1 := by simp
 have x1 := heap_alloc_self (w.alloc (.cells #[.int .i64 0, .string ⟨#[]⟩, .string ⟨#[]⟩, .slice none 0 0] 38)) (.cells #[.int .i64 r.at', .int .i64 r.tm, .bool r.bare, .string r.key, .bool r.gone, .string r.val, .slice oa n cap] 95)
 rw [s1] at x1
 have X1 := Lib.hid x1
 have X0 := Lib.hid ((heap_alloc_lt (.cells #[.int .i64 r.at', .int .i64 r.tm, .bool r.bare, .string r.key, .bool r.gone, .string r.val, .slice oa n cap] 95) (lt_of_heap (heap_alloc_self w (.cells #[.int .i64 0, .string ⟨#[]⟩, .string ⟨#[]⟩, .slice none 0 0] 38)))).trans (heap_alloc_self w (.cells #[.int .i64 0, .string ⟨#[]⟩, .string ⟨#[]⟩, .slice none 0 0] 38)))
 have d0 := fun j => cell_of X0.out j
 have HR := Lib.hid hr
 clear f1 s1 x1 h hr
 unfold recV
 go_enter Tryz.func48, Tryz.ntmps48
 go_wp2_with fail
 generalize ((w.alloc (.cells #[.int .i64 0, .string ⟨#[]⟩, .string ⟨#[]⟩, .slice none 0 0] 38)).alloc (.cells #[.int .i64 r.at', .int .i64 r.tm, .bool r.bare, .string r.key, .bool r.gone, .string r.val, .slice oa n cap] 95)) = w1 at *
 refine (xcheck_zero (w := w1)).mono ?_
 rintro e w2 ⟨rfl, f2⟩
 have F2 := Lib.hid (F1.out.tr f2)
 have H2 := Lib.hid (H1.out.old f2)
 have X1 := Lib.hid ((f2.block _ (lt_of_heap X1.out) fun h => h).trans X1.out)
 have X0 := Lib.hid ((f2.block _ (lt_of_heap X0.out) fun h => h).trans X0.out)
 have d1 := fun j => cell_of X1.out j
 have RC := Lib.hid (rcheck_ok K r (.slice oa n cap) w2 H2.out HR.out)
 unfold recV at RC
 clear f2 d0 H1 F1
 go_wp2_with fail
 refine RC.out.mono ?_
 rintro e w3 ⟨rfl, f3⟩
 have F3 := Lib.hid (F2.out.tr f3)
 have X1 := Lib.hid ((f3.block _ (lt_of_heap X1.out) fun h => h).trans X1.out)
 have X0 := Lib.hid ((f3.block _ (lt_of_heap X0.out) fun h => h).trans X0.out)
 have d1 := fun j => cell_of X1.out j
 have d0 := fun j => cell_of X0.out j
 have LZ := Lib.hid (lets_zero (w := w3) r oa n cap)
 unfold recV at LZ
 clear f3 F2 RC
 go_wp2_with fail
 refine LZ.out.mono ?_
 rintro e w4 ⟨rfl, f4⟩
 have F4 := Lib.hid (F3.out.tr f4)
 clear f4 LZ
 go_wp2_with fail
 go_ret2
 exact ⟨rfl, F4.out⟩
theorem ownR_mono {K K' : Nat → Prop} {B : Nat} {v : Value} {rs : List Rec} (h : OwnRecs K B w v rs) (h2 : ∀ k, K k → k < w.heap.size → K' k) : OwnRecs K' B w v rs := by
 obtain ⟨zs, e, h3, h4⟩ := h
 exact ⟨zs, e, h3, fun z hz => (h4 z hz).mono fun k hk hl => ⟨h2 k hk.1 hl, hk.2⟩⟩
theorem ownR_fr {K : Nat → Prop} {B : Nat} {v : Value} {rs : List Rec} (h : OwnRecs K B w v rs) (hf : Fr S w w') (h1 : ∀ k, v.ownBlock = some k → ¬ S k) (h2 : ∀ k, K k → ¬ S k) : OwnRecs K B w' v rs := by
 obtain ⟨zs, e, h3, h4⟩ := h
 exact ⟨zs, e, own_eq h3 fun k hk => hf.block k (own_lt h3 hk).2 (h1 k hk), fun z hz => (h4 z hz).fr hf fun k hk => h2 k hk.1⟩
def PickPost (w : World) (rs : List Rec) (e : Ending) (w' : World) : Prop := ∃ v, e = .returned (.tuple #[v, .int .i64 0]) ∧ RecsR (fun b => w.heap.size ≤ b) w' v rs ∧ Fr (fun _ => False) w w'
set_option maxHeartbeats 32000000 in
theorem pick_zero (K : Nat → Prop) (rs : List Rec) (v : Value) (h : RecsR K w v rs) (hl : rs.length ≤ 1000) (hs : ∀ r ∈ rs, RecOK r) :
  Calls Tryz.prog 20 #[.agg #[.int .i64 0, .string ⟨#[]⟩, .string ⟨#[]⟩, .slice none 0 0], v] w (PickPost w rs) := by
 obtain ⟨oa, cap, rfl, h⟩ := h
 have H := Lib.hid h
 have HS := Lib.hid hs
 have f0 := (Fr.same w).alloc (.cells #[.int .i64 0, .string ⟨#[]⟩, .string ⟨#[]⟩, .slice none 0 0] 38)
 have F0 := Lib.hid f0
 have X0 := Lib.hid (heap_alloc_self w (.cells #[.int .i64 0, .string ⟨#[]⟩, .string ⟨#[]⟩, .slice none 0 0] 38))
 have d0 := fun j => cell_of X0.out j
 clear h hs f0
 go_enter Tryz.func20, Tryz.ntmps20
 go_wp2_with fail
 generalize (w.alloc (.cells #[.int .i64 0, .string ⟨#[]⟩, .string ⟨#[]⟩, .slice none 0 0] 38)) = w0 at *
 refine (xcheck_zero (w := w0)).mono ?_
 rintro e w1 ⟨rfl, f1⟩
 have F1 := Lib.hid (F0.out.tr f1)
 have X1 := Lib.hid ((f1.block _ (lt_of_heap X0.out) fun h => h).trans X0.out)
 clear f1 d0 X0 F0
 go_wp2_with fail
 go_loopw [6, 16] (fun o i wr => ∃ k : Nat, i = .int .i64 k ∧ k ≤ rs.length ∧ OwnRecs (fun b => w1.heap.size ≤ b) w1.heap.size wr o (rs.take k) ∧ Fr (fun _ => False) w1 wr) (fun _ i _ => rs.length - (intOf i).toNat)
 case atStart => exact ⟨0, rfl, Nat.zero_le _, OwnRecs.nil _ _ _, Fr.same _⟩
 case round =>
  obtain ⟨k, rfl, hk, ho, hf⟩ := hrel
  have F := Lib.hid (F1.out.tr hf)
  have G := Lib.hid hf
  have O := Lib.hid ho
  have X := Lib.hid ((hf.block _ (lt_of_heap X1.out) fun h => h).trans X1.out)
  clear hf ho
  rcases Nat.lt_or_ge k rs.length with hlt | hge
  ·obtain ⟨x, hx⟩ := get_of_lt hlt
   obtain ⟨a, hv, rfl, -, hc, hr⟩ := H.out k x hx
   have hc1 := hc.to (F.out.block _ hc.lt fun h => h)
   obtain ⟨c0, c1, c2, c3, c4, c5, c6⟩ := hc1
   have hb := HS.out x (List.mem_of_getElem? hx)
   have HX := Lib.hid hx
   have HBK := Lib.hid hb
   obtain ⟨ob, ocap, hob⟩ := O.out.slice
   rw [List.length_take_of_le hk] at hob
   subst hob
   obtain ⟨ha, hcap, rfl, -⟩ := id hr
   have HR := Lib.hid hr
   have fa := (Fr.same wr).alloc (.cells #[.int .i64 x.at', .int .i64 x.tm, .bool x.bare, .string x.key, .bool x.gone, .string x.val, .slice ha x.hs.length hcap] 95)
   have xa := heap_alloc_self wr (.cells #[.int .i64 x.at', .int .i64 x.tm, .bool x.bare, .string x.key, .bool x.gone, .string x.val, .slice ha x.hs.length hcap] 95)
   have XA := Lib.hid xa
   have XX := Lib.hid ((fa.block _ (lt_of_heap X.out) fun h => h).trans X.out)
   have FA := Lib.hid fa
   have d0 := fun j => cell_of XX.out j
   have OA := Lib.hid (O.out.old fa)
   have RA := Lib.hid (HR.out.old (F.out.tr fa))
   have MZ := Lib.hid (match_zero (w := wr.alloc (.cells #[.int .i64 x.at', .int .i64 x.tm, .bool x.bare, .string x.key, .bool x.gone, .string x.val, .slice ha x.hs.length hcap] 95)) K x ha x.hs.length hcap RA.out HBK.out)
   unfold recV at MZ
   clear hx hc hr hb fa xa
   go_wp2_with fail
   generalize (wr.alloc (.cells #[.int .i64 x.at', .int .i64 x.tm, .bool x.bare, .string x.key, .bool x.gone, .string x.val, .slice ha x.hs.length hcap] 95)) = w2 at *
   refine MZ.out.mono ?_
   rintro e w3 ⟨rfl, f3⟩
   have F3 := Lib.hid (FA.out.tr f3)
   have F23 := Lib.hid f3
   have XA := Lib.hid ((f3.block _ (lt_of_heap XA.out) fun h => h).trans XA.out)
   have O3 := Lib.hid (OA.out.old f3)
   have R3 := Lib.hid (RA.out.old f3)
   have d3 := fun j => cell_of XA.out j
   have LW := Lib.hid (lt_of_heap XA.out)
   have HC := Lib.hid (hclone_walk K x.hs _ w3 R3.out (by have := HBK.out.hs; omega))
   clear f3 MZ d0 c0 c1 c2 c3 c4 c5 c6
   go_wp2_with fail
   refine HC.out.mono ?_
   rintro e w4 ⟨hv4, rfl, hr4, f4⟩
   obtain ⟨ha4, hcap4, rfl, -⟩ := id hr4
   have XA := Lib.hid ((f4.block _ (lt_of_heap XA.out) fun h => h).trans XA.out)
   have F4 := Lib.hid (F3.out.tr f4)
   have O4 := Lib.hid (O3.out.old f4)
   have R4 := Lib.hid hr4
   have d4 := fun j => cell_of XA.out j
   have z4 := fun j => fz_of XA.out j
   have x5 := (heap_setCell_self XA.out (o := 6) (.slice ha4 x.hs.length hcap4)).trans (show _ = some (.cells #[.int .i64 x.at', .int .i64 x.tm, .bool x.bare, .string x.key, .bool x.gone, .string x.val, .slice ha4 x.hs.length hcap4] 95 (0, 0)) from rfl)
   have f5 : Fr (fun i => i = wr.heap.size) w4 (w4.setCell ⟨wr.heap.size, 6, none⟩ (.slice ha4 x.hs.length hcap4)) := (Fr.refl (fun i => i = wr.heap.size) w4).setCell (p := ⟨wr.heap.size, 6, none⟩) (.inl rfl) _
   have O4 := Lib.hid (((ownR_mono (K' := fun b => w1.heap.size ≤ b ∧ b < wr.heap.size) O.out fun k h1 h2 => ⟨h1, h2⟩).old FA.out).old (F23.out.tr f4))
   have O5 := Lib.hid (ownR_mono (K' := fun b => w1.heap.size ≤ b) (ownR_fr O4.out f5 (fun k hk e => by have := (O.out.lt hk).2; omega) fun k hk e => by have := hk.2; omega) fun k hk _ => hk.1)
   have R5 := Lib.hid (R4.out.fr f5 fun k hk e => by have := LW.out; omega)
   have F5 := Lib.hid (F4.out.trans (S' := fun i => i = wr.heap.size) f5 fun i e => .inr (by omega))
   have LE := Lib.hid (show w1.heap.size ≤ wr.heap.size ∧ wr.heap.size < w3.heap.size ∧ w3.heap.size ≤ (w4.setCell ⟨wr.heap.size, 6, none⟩ (.slice ha4 x.hs.length hcap4)).heap.size from ⟨G.out.size, LW.out, Nat.le_trans f4.size f5.size⟩)
   have c5 := fun j => cell_of x5 j
   have ha := fun j => cell_alloc_new (w4.setCell ⟨wr.heap.size, 6, none⟩ (.slice ha4 x.hs.length hcap4)) #[.int .i64 x.at', .int .i64 x.tm, .bool x.bare, .string x.key, .bool x.gone, .string x.val, .slice ha4 x.hs.length hcap4] 95 j
   have sz5 : (w4.setCell ⟨wr.heap.size, 6, none⟩ (.slice ha4 x.hs.length hcap4)).heap.size = w4.heap.size := by simp [World.setCell]
   rw [sz5] at ha
   have HA := Lib.hid ha
   have f6 := (Fr.same (w4.setCell ⟨wr.heap.size, 6, none⟩ (.slice ha4 x.hs.length hcap4))).alloc (.cells #[.int .i64 x.at', .int .i64 x.tm, .bool x.bare, .string x.key, .bool x.gone, .string x.val, .slice ha4 x.hs.length hcap4] 95)
   have O6 := Lib.hid (O5.out.old f6)
   have R6 := Lib.hid (R5.out.old f6)
   have F6 := Lib.hid (F5.out.tr f6)
   have S6 := Lib.hid f6.size
   clear hr4 f4 x5 f5 HC O4 ha f6 sz5
   go_wp2_with (at_builtin; refine wpList_push_rec _ rfl (.tmp 36) (.tmp 38) rfl (fun b => w1.heap.size ≤ b) w1.heap.size (.slice ob k ocap) (rs.take k) rfl O6.out w4.heap.size 1 rfl x (.slice ha4 x.hs.length hcap4) HA.out ?c1 rfl ?c2 ?c3 ?_)
   case c1 => exact R6.out.mono fun b hb _ => ⟨by have := LE.out; omega, fun e => by have := (O.out.lt e).2; have := LE.out; omega⟩
   case c2 => rw [List.length_take_of_le hk]; omega
   case c3 => have := LE.out; have := S6.out; omega
   intro v7 w7 ho7 hg7 hb7
   have hf7 : Fr (fun _ => False) w1 w7 := (G.out.tr F6.out).grown hg7 fun k hk => .inr (O.out.lt hk).1
   rw [← take_snoc HX.out] at ho7
   have F7 := Lib.hid hf7
   have O7 := Lib.hid ho7
   clear hf7 ho7 hg7 hb7
   go_wp2_with fail
   go_roundw
   case rel => exact ⟨k + 1, by go_num, by omega, O7.out, F7.out⟩
   case measure => simp [intOf]; omega
  ·go_wp2_with fail
   go_ret2
   refine ⟨_, rfl, ?_, F.out⟩
   have := O.out
   rw [List.take_of_length_le hge] at this
   have hs1 := F1.out.size
   exact this.reads (fun b hb _ => by omega) fun b hb _ => by omega
end
end Go.Proofs.YtfdhofabgdkkkaaGreatDoor
