/- Match and Pick of any filter. -/
import Derived.Test.YtfdhofabgdkkkaaGreatDoorQ46
namespace Go.Proofs.YtfdhofabgdkkkaaGreatDoor
open Go.RowKit Go.Fm Go.BigFrame Go.Shelf Go.Maps
set_option linter.unusedVariables false
set_option linter.unusedSimpArgs false
set_option maxRecDepth 100000
section
variable {w w' : World} {S : Nat → Prop} {K K2 : Nat → Prop}
theorem allF_small : ∀ (ks : Fst) (l : Nat), allF ks l = true → ks.small
 | .nil, _, _ => trivial
 | .cons op nm vl ks r, l, h => by
  rw [allF_cons] at h
  unfold partB at h
  simp only [Bool.and_eq_true, decide_eq_true_eq] at h
  exact ⟨by have := (fits_in h.1.1.2).vls; omega, allF_small ks _ h.1.2, allF_small r _ h.2⟩
theorem sm_of {op : Int} {nm vl : ByteArray} {ks : Fst} {r : Rec} (h : checkB op nm vl ks = true) (hr : RecOK r) : SmE vl ks r := by
 unfold checkB partB at h
 simp only [Bool.and_eq_true, decide_eq_true_eq] at h
 exact ⟨by have := (fits_in h.2.1.2).vls; omega, allF_small ks _ h.2.2, by have := hr.val; omega⟩
set_option maxHeartbeats 16000000 in
theorem match_any (K K1 : Nat → Prop) (op : Int) (nm vl : ByteArray) (ks : Fst) (oe : Option Addr) (ce : Nat) (r : Rec) (oa : Option Addr) (n cap : Nat) (h : HdsR K w (.slice oa n cap) r.hs) (hr : RecOK r) (hk : KidR K1 w (.slice oe ks.len ce) ks) (hw : ∀ i, K1 i → i < w.heap.size) (hx : checkB op nm vl ks = true) (hcw : hasCw w) (hn : n = r.hs.length) : Calls Tryz.prog 48 #[.agg #[.int .i64 op, .string nm, .string vl, .slice oe ks.len ce], recV r (.slice oa n cap)] w fun e w' => e = .returned (.tuple #[.bool (letB hasWF op nm vl ks r), .int .i64 0]) ∧ Fr (fun _ => False) w w' := by
 subst hn
 have f1 := ((Fr.same w).alloc (.cells #[.int .i64 op, .string nm, .string vl, .slice oe ks.len ce] 38)).alloc (.cells #[.int .i64 r.at', .int .i64 r.tm, .bool r.bare, .string r.key, .bool r.gone, .string r.val, .slice oa r.hs.length cap] 95)
 have F1 := Lib.hid f1
 have KW := Lib.hid (hk.old f1)
 have HWB := Lib.hid (fun i hi => Nat.lt_of_lt_of_le (hw i hi) f1.size)
 have CW := Lib.hid (hasCw_fr _ _ hcw f1)
 have SM := Lib.hid (sm_of hx hr)
 have H1 := Lib.hid (h.old f1)
 have s1 : (w.alloc (.cells #[.int .i64 op, .string nm, .string vl, .slice oe ks.len ce] 38)).heap.size = w.heap.size + 1 := by simp
 have x1 := heap_alloc_self (w.alloc (.cells #[.int .i64 op, .string nm, .string vl, .slice oe ks.len ce] 38)) (.cells #[.int .i64 r.at', .int .i64 r.tm, .bool r.bare, .string r.key, .bool r.gone, .string r.val, .slice oa r.hs.length cap] 95)
 rw [s1] at x1
 have X1 := Lib.hid x1
 have X0 := Lib.hid ((heap_alloc_lt (.cells #[.int .i64 r.at', .int .i64 r.tm, .bool r.bare, .string r.key, .bool r.gone, .string r.val, .slice oa r.hs.length cap] 95) (lt_of_heap (heap_alloc_self w (.cells #[.int .i64 op, .string nm, .string vl, .slice oe ks.len ce] 38)))).trans (heap_alloc_self w (.cells #[.int .i64 op, .string nm, .string vl, .slice oe ks.len ce] 38)))
 have d0 := fun j => cell_of X0.out j
 have HR := Lib.hid hr
 clear f1 s1 x1 h hr hk hw hcw
 have HX := Lib.hid hx
 clear hx
 have XW := fun (w' : World) (h1 : KidR K1 w' (.slice oe ks.len ce) ks) (h2 : ∀ i, K1 i → i < w'.heap.size) => xcheck_walk (w := w') op nm vl (.slice oe ks.len ce) ks h1 h2
 unfold exV at XW
 have XW := Lib.hid XW
 unfold recV
 go_enter Tryz.func48, Tryz.ntmps48
 go_wp2_with fail
 generalize ((w.alloc (.cells #[.int .i64 op, .string nm, .string vl, .slice oe ks.len ce] 38)).alloc (.cells #[.int .i64 r.at', .int .i64 r.tm, .bool r.bare, .string r.key, .bool r.gone, .string r.val, .slice oa r.hs.length cap] 95)) = w1 at *
 refine (XW.out w1 KW.out HWB.out).mono ?_
 rintro e w2 ⟨rfl, f2⟩
 rw [HX.out, if_pos rfl]
 have KW := Lib.hid (KW.out.old f2)
 have CW := Lib.hid (hasCw_fr _ _ CW.out f2)
 have F2 := Lib.hid (F1.out.tr f2)
 have H2 := Lib.hid (H1.out.old f2)
 have X1 := Lib.hid ((f2.block _ (lt_of_heap X1.out) fun h => h).trans X1.out)
 have X0 := Lib.hid ((f2.block _ (lt_of_heap X0.out) fun h => h).trans X0.out)
 have d1 := fun j => cell_of X1.out j
 have RC := Lib.hid (rcheck_ok K r (.slice oa r.hs.length cap) w2 H2.out HR.out)
 unfold recV at RC
 clear f2 d0 H1 F1 XW
 go_wp2_with fail
 refine RC.out.mono ?_
 rintro e w3 ⟨rfl, f3⟩
 have F3 := Lib.hid (F2.out.tr f3)
 have X1 := Lib.hid ((f3.block _ (lt_of_heap X1.out) fun h => h).trans X1.out)
 have X0 := Lib.hid ((f3.block _ (lt_of_heap X0.out) fun h => h).trans X0.out)
 have d1 := fun j => cell_of X1.out j
 have d0 := fun j => cell_of X0.out j
 have KW := Lib.hid (KW.out.old f3)
 have CW := Lib.hid (hasCw_fr _ _ CW.out f3)
 have LZ := Lib.hid (lets_calls ks op nm vl (.slice oe ks.len ce) r (.slice oa r.hs.length cap) w3 KW.out (H2.out.old f3) (by have := HR.out.hs; omega) SM.out CW.out)
 unfold exV at LZ
 unfold recV at LZ
 clear f3 F2 RC
 go_wp2_with fail
 refine LZ.out.mono ?_
 rintro e w4 ⟨rfl, f4⟩
 have F4 := Lib.hid (F3.out.tr f4)
 clear f4 LZ
 go_wp2_with fail
 go_ret2
 exact ⟨rfl, F4.out⟩
set_option maxHeartbeats 32000000 in
theorem pick_any (K K1 : Nat → Prop) (op : Int) (nm vl : ByteArray) (ks : Fst) (oe : Option Addr) (ce : Nat) (rs : List Rec) (v : Value) (h : RecsR K w v rs) (hl : rs.length ≤ 1000) (hs : ∀ r ∈ rs, RecOK r) (hk : KidR K1 w (.slice oe ks.len ce) ks) (hw : ∀ i, K1 i → i < w.heap.size) (hx : checkB op nm vl ks = true) (hcw : hasCw w) :
  Calls Tryz.prog 20 #[.agg #[.int .i64 op, .string nm, .string vl, .slice oe ks.len ce], v] w (PickPost w (rs.filter (letB hasWF op nm vl ks))) := by
 obtain ⟨oa, cap, rfl, h⟩ := h
 have H := Lib.hid h
 have HS := Lib.hid hs
 have f0 := (Fr.same w).alloc (.cells #[.int .i64 op, .string nm, .string vl, .slice oe ks.len ce] 38)
 have F0 := Lib.hid f0
 have KW := Lib.hid (hk.old f0)
 have HWB := Lib.hid (fun i hi => Nat.lt_of_lt_of_le (hw i hi) f0.size)
 have CW := Lib.hid (hasCw_fr _ _ hcw f0)
 have HXX := Lib.hid hx
 have XW := fun (w' : World) (h1 : KidR K1 w' (.slice oe ks.len ce) ks) (h2 : ∀ i, K1 i → i < w'.heap.size) => xcheck_walk (w := w') op nm vl (.slice oe ks.len ce) ks h1 h2
 unfold exV at XW
 have XW := Lib.hid XW
 have X0 := Lib.hid (heap_alloc_self w (.cells #[.int .i64 op, .string nm, .string vl, .slice oe ks.len ce] 38))
 have d0 := fun j => cell_of X0.out j
 clear h hs f0 hk hw hx hcw
 go_enter Tryz.func20, Tryz.ntmps20
 go_wp2_with fail
 generalize (w.alloc (.cells #[.int .i64 op, .string nm, .string vl, .slice oe ks.len ce] 38)) = w0 at *
 refine (XW.out w0 KW.out HWB.out).mono ?_
 rintro e w1 ⟨rfl, f1⟩
 rw [HXX.out, if_pos rfl]
 have KW := Lib.hid (KW.out.old f1)
 have HWB := Lib.hid (fun i hi => Nat.lt_of_lt_of_le (HWB.out i hi) f1.size)
 have CW := Lib.hid (hasCw_fr _ _ CW.out f1)
 have F1 := Lib.hid (F0.out.tr f1)
 have X1 := Lib.hid ((f1.block _ (lt_of_heap X0.out) fun h => h).trans X0.out)
 clear f1 d0 X0 F0 XW
 go_wp2_with fail
 go_loopw [6, 16] (fun o i wr => ∃ k : Nat, i = .int .i64 k ∧ k ≤ rs.length ∧ OwnRecs (fun b => w1.heap.size ≤ b) w1.heap.size wr o ((rs.take k).filter (letB hasWF op nm vl ks)) ∧ Fr (fun _ => False) w1 wr) (fun _ i _ => rs.length - (intOf i).toNat)
 case atStart => exact ⟨0, rfl, Nat.zero_le _, OwnRecs.nil _ _ _, Fr.same _⟩
 case round =>
  obtain ⟨k, rfl, hk, ho, hf⟩ := hrel
  have F := Lib.hid (F1.out.tr hf)
  have G := Lib.hid hf
  have O := Lib.hid ho
  have X := Lib.hid ((hf.block _ (lt_of_heap X1.out) fun h => h).trans X1.out)
  obtain ⟨cs, hcs⟩ : ∃ cs, cs = (rs.take k).filter (letB hasWF op nm vl ks) := ⟨_, rfl⟩
  rw [← hcs] at ho
  have O := Lib.hid ho
  have HCS := Lib.hid hcs
  have CLN := Lib.hid (show cs.length ≤ k by rw [hcs]; exact Nat.le_trans (List.length_filter_le _ _) (by rw [List.length_take]; omega))
  have KR := Lib.hid (KW.out.old hf)
  have CR := Lib.hid (hasCw_fr _ _ CW.out hf)
  clear hf ho hcs
  rcases Nat.lt_or_ge k rs.length with hlt | hge
  ·obtain ⟨x, hx⟩ := get_of_lt hlt
   obtain ⟨a, hv, rfl, -, hc, hr⟩ := H.out k x hx
   have hc1 := hc.to (F.out.block _ hc.lt fun h => h)
   obtain ⟨c0, c1, c2, c3, c4, c5, c6⟩ := hc1
   have hb := HS.out x (List.mem_of_getElem? hx)
   have HX := Lib.hid hx
   have HBK := Lib.hid hb
   obtain ⟨ob, ocap, hob⟩ := O.out.slice
   subst hob
   obtain ⟨ha, hcap, rfl, -⟩ := id hr
   have HR := Lib.hid hr
   have fa := (Fr.same wr).alloc (.cells #[.int .i64 x.at', .int .i64 x.tm, .bool x.bare, .string x.key, .bool x.gone, .string x.val, .slice ha x.hs.length hcap] 95)
   have xa := heap_alloc_self wr (.cells #[.int .i64 x.at', .int .i64 x.tm, .bool x.bare, .string x.key, .bool x.gone, .string x.val, .slice ha x.hs.length hcap] 95)
   have XA := Lib.hid xa
   have XX := Lib.hid ((fa.block _ (lt_of_heap X.out) fun h => h).trans X.out)
   have FA := Lib.hid fa
   have d0 := fun j => cell_of XX.out j
   have OA := Lib.hid (O.out.old fa)
   have RA := Lib.hid (HR.out.old (F.out.tr fa))
   have MZ := Lib.hid (match_any (w := wr.alloc (.cells #[.int .i64 x.at', .int .i64 x.tm, .bool x.bare, .string x.key, .bool x.gone, .string x.val, .slice ha x.hs.length hcap] 95)) K K1 op nm vl ks oe ce x ha x.hs.length hcap RA.out HBK.out (KR.out.old fa) (fun i hi => Nat.lt_of_lt_of_le (HWB.out i hi) (Nat.le_trans G.out.size fa.size)) HXX.out (hasCw_fr _ _ CR.out fa) rfl)
   obtain ⟨lb, hlb⟩ : ∃ lb, lb = letB hasWF op nm vl ks x := ⟨_, rfl⟩
   rw [← hlb] at MZ
   have HLB := Lib.hid hlb
   clear hlb
   unfold recV at MZ
   clear hx hc hr hb fa xa
   go_wp2_with fail
   generalize (wr.alloc (.cells #[.int .i64 x.at', .int .i64 x.tm, .bool x.bare, .string x.key, .bool x.gone, .string x.val, .slice ha x.hs.length hcap] 95)) = w2 at *
   refine MZ.out.mono ?_
   rintro e w3 ⟨rfl, f3⟩
   have F3 := Lib.hid (FA.out.tr f3)
   have F23 := Lib.hid f3
   have XA := Lib.hid ((f3.block _ (lt_of_heap XA.out) fun h => h).trans XA.out)
   have O3 := Lib.hid (OA.out.old f3)
   have R3 := Lib.hid (RA.out.old f3)
   have d3 := fun j => cell_of XA.out j
   have LW := Lib.hid (lt_of_heap XA.out)
   have HC := Lib.hid (hclone_walk K x.hs _ w3 R3.out (by have := HBK.out.hs; omega))
   clear f3 MZ d0 c0 c1 c2 c3 c4 c5 c6
   cases lb with
   | false =>
    have OE := Lib.hid (show (rs.take (k + 1)).filter (letB hasWF op nm vl ks) = cs by rw [take_snoc HX.out, List.filter_append, ← HCS.out]; simp [← HLB.out])
    clear HC
    go_wp2_with fail
    go_roundw
    case rel => exact ⟨k + 1, by go_num, by omega, by rw [OE.out]; exact O3.out, G.out.tr F3.out⟩
    case measure => simp [intOf]; omega
   | true =>
    go_wp2_with fail
    refine HC.out.mono ?_
    rintro e w4 ⟨hv4, rfl, hr4, f4⟩
    obtain ⟨ha4, hcap4, rfl, -⟩ := id hr4
    have XA := Lib.hid ((f4.block _ (lt_of_heap XA.out) fun h => h).trans XA.out)
    have F4 := Lib.hid (F3.out.tr f4)
    have O4 := Lib.hid (O3.out.old f4)
    have R4 := Lib.hid hr4
    have d4 := fun j => cell_of XA.out j
    have z4 := fun j => fz_of XA.out j
    have x5 := (heap_setCell_self XA.out (o := 6) (.slice ha4 x.hs.length hcap4)).trans (show _ = some (.cells #[.int .i64 x.at', .int .i64 x.tm, .bool x.bare, .string x.key, .bool x.gone, .string x.val, .slice ha4 x.hs.length hcap4] 95 (0, 0)) from rfl)
    have f5 : Fr (fun i => i = wr.heap.size) w4 (w4.setCell ⟨wr.heap.size, 6, none⟩ (.slice ha4 x.hs.length hcap4)) := (Fr.refl (fun i => i = wr.heap.size) w4).setCell (p := ⟨wr.heap.size, 6, none⟩) (.inl rfl) _
    have O4 := Lib.hid (((ownR_mono (K' := fun b => w1.heap.size ≤ b ∧ b < wr.heap.size) O.out fun k h1 h2 => ⟨h1, h2⟩).old FA.out).old (F23.out.tr f4))
    have O5 := Lib.hid (ownR_mono (K' := fun b => w1.heap.size ≤ b) (ownR_fr O4.out f5 (fun k hk e => by have := (O.out.lt hk).2; omega) fun k hk e => by have := hk.2; omega) fun k hk _ => hk.1)
    have R5 := Lib.hid (R4.out.fr f5 fun k hk e => by have := LW.out; omega)
    have F5 := Lib.hid (F4.out.trans (S' := fun i => i = wr.heap.size) f5 fun i e => .inr (by omega))
    have LE := Lib.hid (show w1.heap.size ≤ wr.heap.size ∧ wr.heap.size < w3.heap.size ∧ w3.heap.size ≤ (w4.setCell ⟨wr.heap.size, 6, none⟩ (.slice ha4 x.hs.length hcap4)).heap.size from ⟨G.out.size, LW.out, Nat.le_trans f4.size f5.size⟩)
    have c5 := fun j => cell_of x5 j
    have ha := fun j => cell_alloc_new (w4.setCell ⟨wr.heap.size, 6, none⟩ (.slice ha4 x.hs.length hcap4)) #[.int .i64 x.at', .int .i64 x.tm, .bool x.bare, .string x.key, .bool x.gone, .string x.val, .slice ha4 x.hs.length hcap4] 95 j
    have sz5 : (w4.setCell ⟨wr.heap.size, 6, none⟩ (.slice ha4 x.hs.length hcap4)).heap.size = w4.heap.size := by simp [World.setCell]
    rw [sz5] at ha
    have HA := Lib.hid ha
    have f6 := (Fr.same (w4.setCell ⟨wr.heap.size, 6, none⟩ (.slice ha4 x.hs.length hcap4))).alloc (.cells #[.int .i64 x.at', .int .i64 x.tm, .bool x.bare, .string x.key, .bool x.gone, .string x.val, .slice ha4 x.hs.length hcap4] 95)
    have O6 := Lib.hid (O5.out.old f6)
    have R6 := Lib.hid (R5.out.old f6)
    have F6 := Lib.hid (F5.out.tr f6)
    have S6 := Lib.hid f6.size
    clear hr4 f4 x5 f5 HC O4 ha f6 sz5
    go_wp2_with (at_builtin; refine wpList_push_rec _ rfl (.tmp 36) (.tmp 38) rfl (fun b => w1.heap.size ≤ b) w1.heap.size (.slice ob cs.length ocap) cs rfl O6.out w4.heap.size 1 rfl x (.slice ha4 x.hs.length hcap4) HA.out ?c1 rfl ?c2 ?c3 ?_)
    case c1 => exact R6.out.mono fun b hb _ => ⟨by have := LE.out; omega, fun e => by have := (O.out.lt e).2; have := LE.out; omega⟩
    case c2 => have := CLN.out; omega
    case c3 => have := LE.out; have := S6.out; omega
    intro v7 w7 ho7 hg7 hb7
    have hf7 : Fr (fun _ => False) w1 w7 := (G.out.tr F6.out).grown hg7 fun k hk => .inr (O.out.lt hk).1
    rw [show cs ++ [x] = (rs.take (k + 1)).filter (letB hasWF op nm vl ks) by rw [take_snoc HX.out, List.filter_append, ← HCS.out]; simp [← HLB.out]] at ho7
    have F7 := Lib.hid hf7
    have O7 := Lib.hid ho7
    clear hf7 ho7 hg7 hb7
    go_wp2_with fail
    go_roundw
    case rel => exact ⟨k + 1, by go_num, by omega, O7.out, F7.out⟩
    case measure => simp [intOf]; omega
  ·go_wp2_with fail
   go_ret2
   refine ⟨_, rfl, ?_, F.out⟩
   have := O.out
   rw [HCS.out, List.take_of_length_le hge] at this
   have hs1 := F1.out.size
   exact this.reads (fun b hb _ => by omega) fun b hb _ => by omega
end
end Go.Proofs.YtfdhofabgdkkkaaGreatDoor
