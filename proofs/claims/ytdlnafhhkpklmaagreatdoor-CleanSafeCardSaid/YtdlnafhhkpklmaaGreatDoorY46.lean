/- Swap of a segment: the walk. -/
import Derived.Test.YtdlnafhhkpklmaaGreatDoorY45
namespace Go.Proofs.YtdlnafhhkpklmaaGreatDoor
open Go.RowKit Go.Fm Go.BigFrame Go.Shelf Go.Maps
set_option linter.unusedVariables false
set_option linter.unusedSimpArgs false
set_option maxRecDepth 100000
section
variable {B : Nat} {w w' wA w0 w1 w2 w3 wr : World} {lb db mb : Nat} {p : ByteArray} {lim ev : Nat} {beg : Int} {es es0 es1 : List PE} {own : Bool} {L L' L2 : List Row} {S S' G : Nat → Prop} {room used fuse used' fuse' : Int} {F F' F2 : ByteArray → ByteArray × Nat} {n j k : Nat} {ss A C : List Seg} {s : Seg} {cl : List Bat}
theorem segs_mid (es0 es1 : List PE) (x : PE) : segsOf (es0 ++ x :: es1) = segsOf es0 ++ x.s :: segsOf es1 := by simp [segsOf]
theorem segs_ne {es : List PE} (h : es ≠ []) : segsOf es ≠ [] := by unfold segsOf; simpa using h
theorem lgEnd_mid {x y : PE} (h : es1 ≠ []) : lgEnd beg (es0 ++ y :: es1) = lgEnd beg (es0 ++ x :: es1) := by
 unfold lgEnd
 have h1 : ∀ z : PE, (es0 ++ z :: es1).getLast? = es1.getLast? := fun z => by
  rw [List.getLast?_append, List.getLast?_cons]
  cases hc : es1.getLast? with
  | none => exact absurd (List.getLast?_eq_none_iff.1 hc) h
  | some z => simp
 rw [h1, h1]
/-- The disk behind a swap. -/
theorem logd_swd {x : PE} {used2 fu : Int} (D : LogD B w lb db mb p lim ev beg (es0 ++ x :: es1) true L S room used fuse F n) (hes1 : es1 ≠ []) (hne : cl ≠ []) (hcl : Chn x.s.base cl) (hend : endOf x.s.base cl ≤ x.s.end') (hlen : cl.length ≤ x.s.l.length) (hd2 : DkU w2 db mb room used2 fu L2 F2)
  (hL : ∀ y, (getL L2 y).isSome = if y = nmS p x.s.base then true else if y = swapS p then false else (getL L y).isSome) (hF : F2 (nmS p x.s.base) = (catB cl, (catB cl).size)) (hFx : ∀ y, y ≠ nmS p x.s.base → y ≠ swapS p → F2 y = F y) (hfo : ∀ i, DkS db mb L2 i → DkS db mb L i ∨ w.heap.size ≤ i) (hl2 : L2.length ≤ L.length) :
  DiskLg B w2 db mb p beg (segsOf es0 ++ ⟨x.s.base, ev, cl⟩ :: segsOf es1) L2 room used2 fu F2 n ∧ (LastSafe p (segsOf (es0 ++ x :: es1)) L F → LastSafe p (segsOf es0 ++ ⟨x.s.base, ev, cl⟩ :: segsOf es1) L2 F2) := by
 have hfl := D.fl
 have hnB := D.nB
 have hnE := D.dlg.nE
 rw [segs_mid] at hfl hnB hnE ⊢
 have hb2 := D.b2
 refine ⟨⟨hd2, D.rm, hfl.swapped (segs_ne hes1) hne hend hL hF hFx, fun s hs => ?_, fun i hi => ?_, D.b1, by have := D.nL; omega, by simpa using hnE, ?_, D.n1, D.b0, D.lg.p1, D.lg.p2⟩, fun hls => last_keep hls (segs_ne hes1) fun c hc => ?_⟩
 ·have hch := fun s hs => D.chn (s := s) hs
  rw [segs_mid] at hch
  rcases List.mem_append.1 hs with h | h
  ·exact hch s (by simp [h])
  ·rcases List.mem_cons.1 h with rfl | h
   ·exact hcl
   ·exact hch s (by simp [h])
 ·rcases hfo i hi with h | h
  ·exact D.dl i h
  ·omega
 ·unfold catL at hnB ⊢
  rw [List.flatMap_append, List.flatMap_cons, List.length_append, List.length_append] at hnB ⊢
  dsimp only
  omega
 ·have h1 := seg_bases hfl (a := c) (.inr hc)
  have h2 := nmS_swap p c.base
  exact curF_congr (by rw [hL, if_neg h1, if_neg h2]) (hFx _ h1 h2)
theorem set_mid (es0 es1 : List PE) (x y : PE) : ((es0 ++ x :: es1).map segV).set es0.length (segV y) = (es0 ++ y :: es1).map segV := by
 rw [List.map_append, List.map_append, List.map_cons, List.map_cons]
 have h : es0.length = (es0.map segV).length := by simp
 rw [h, List.set_append_right _ _ (Nat.le_refl _), Nat.sub_self, List.set_cons_zero]
/-- The log behind a swap. -/
theorem logd_swl {x y : PE} {used2 fu : Int} {g scap : Nat} (D : LogD B w lb db mb p lim ev beg (es0 ++ x :: es1) true L S room used fuse F n) (hes1 : es1 ≠ []) (hV : LgV B w lb db mb p lim ev beg (es0 ++ x :: es1) true L (.slice (some ⟨g, 0, none⟩) (es0 ++ x :: es1).length scap) G) (hSS : ∀ i, S i ↔ lgFoot lb G (es0 ++ x :: es1) i)
  (hys : y.s = ⟨x.s.base, ev, cl⟩) (hd : DiskLg B w3 db mb p beg (segsOf es0 ++ ⟨x.s.base, ev, cl⟩ :: segsOf es1) L2 room used2 fu F2 n)
  (hf : Fr (DkS db mb L) w w2) (hw3 : w3 = w2.setCell ⟨g, es0.length, none⟩ (segV y)) (hSg : Sg B w2 y.sb db (nmS p y.s.base) y.s y.S) (hyS : ∀ i, y.S i → w.heap.size ≤ i ∧ i < w2.heap.size) (hyD : ∀ i, y.S i → ¬ DkS db mb L2 i) (hfo : ∀ i, DkS db mb L2 i → DkS db mb L i ∨ w.heap.size ≤ i) (hfo2 : ∀ i, DkS db mb L2 i → i < w2.heap.size) :
  ∃ S', LogD B w3 lb db mb p lim ev beg (es0 ++ y :: es1) true L2 S' room used2 fu F2 n ∧ Foot db mb w w3 S L S' L2 ∧ Fr (fun i => S i ∨ DkS db mb L i) w w3 := by
 have hG : ∀ i, (Value.slice (some ⟨g, 0, none⟩) (es0 ++ x :: es1).length scap).ownBlock = some i → G i := fun i hi => (hV.ow rfl).2 i hi
 have hg : G g := hG g rfl
 have hgD : ¬ DkS db mb L g := hV.ap g (.inr (.inl hg))
 have hglt : g < w.heap.size := (hV.lt g (.inr (.inl hg))).2
 have ho1 := (hV.ow rfl).1
 have ho2 : w2.ownsRow B 96 1 (.slice (some ⟨g, 0, none⟩) (es0 ++ x :: es1).length scap) (es0 ++ x :: es1).length ((es0 ++ x :: es1).map segV) := own_eq ho1 fun k hk => hf.block k (own_lt ho1 hk).2 (hV.ap k (.inr (.inl (hG k hk))))
 have hN : es0.length < (es0 ++ x :: es1).length := by simp
 have ho3 := own_set ho2 hN (segV y)
 rw [set_mid, ← hw3] at ho3
 have hlen : (es0 ++ y :: es1).length = (es0 ++ x :: es1).length := by simp
 have hfs : Fr (fun i => i = g) w2 w3 := by
  rw [hw3]
  exact Fr.setCell (S := fun i => i = g) (p := ⟨g, es0.length, none⟩) (Fr.refl _ w2) (.inl rfl) _
 have hf3 : Fr (fun i => (Value.slice (some ⟨g, 0, none⟩) (es0 ++ x :: es1).length scap).ownBlock = some i ∨ DkS db mb L i) w w3 := (hf.mono fun i hi => .inl (.inr hi)).trans hfs fun i hi => .inl (.inl (by rw [hi]; rfl))
 have hSg3 : Sg B w3 y.sb db (nmS p y.s.base) y.s y.S := hSg.fr hfs fun i hi e => by
  have h1 := (hyS i hi).1
  have h2 : i = g := e
  omega
 have hsz := hfs.size
 have hV3 := hV.mid (y := y) hf3 (by rw [hlen]; exact ho3) hSg3 (fun i hi => ⟨(hyS i hi).1, by have := (hyS i hi).2; omega⟩) hyD hfo (by rw [hys]; exact hV.evs x (by simp))
 have hsg : segsOf (es0 ++ y :: es1) = segsOf es0 ++ ⟨x.s.base, ev, cl⟩ :: segsOf es1 := by rw [segs_mid, hys]
 refine ⟨_, ⟨⟨_, _, hV3, fun i => Iff.rfl⟩, hd.d.dk, hd.d.ok, hd.d.us, hd.d.ur, hd.rm, by rw [hsg]; exact hd.fl, hd.dl, hd.b1, hd.nL, by rw [hlen]; exact D.nE, by rw [hsg]; exact hd.nB, hd.n1, by rw [lgEnd_mid hes1]; exact D.be⟩, ⟨fun i hi => ?_, fun i hi => ?_⟩, ?_⟩
 ·have hm : ∀ e, e ∈ es0 ∨ e ∈ es1 → e ∈ es0 ++ x :: es1 := fun e he => by rcases he with h | h <;> simp [h]
  rcases hi with hi | hi | ⟨e, he, hi⟩
  ·exact .inl ((hSS i).2 (.inl hi))
  ·exact .inl ((hSS i).2 (.inr (.inl (hG i hi))))
  ·rcases List.mem_append.1 he with he | he
   ·exact .inl ((hSS i).2 (.inr (.inr ⟨e, hm e (.inl he), hi⟩)))
   ·rcases List.mem_cons.1 he with rfl | he
    ·exact .inr ⟨(hyS i hi).1, by have := (hyS i hi).2; omega⟩
    ·exact .inl ((hSS i).2 (.inr (.inr ⟨e, hm e (.inr he), hi⟩)))
 ·rcases hfo i hi with h | h
  ·exact .inl h
  ·exact .inr ⟨h, by have := hfo2 i hi; omega⟩
 ·refine hf3.mono fun i hi => ?_
  rcases hi with hi | hi
  ·exact .inl (.inl ((hSS i).2 (.inr (.inl (hG i hi)))))
  ·exact .inl (.inr hi)
set_option maxHeartbeats 32000000 in
theorem lswap_walk {x : PE} (D0 : LogD B w lb db mb p lim ev beg (es0 ++ x :: es1) true L S room used fuse F n) (hst : StepsOK w) (hes1 : es1 ≠ []) (cl : List Bat) (v : Value) (K : Nat → Prop) (hv : BatsR K w v cl) (hne : cl ≠ []) (hcl : Chn x.s.base cl) (hend : endOf x.s.base cl ≤ x.s.end') (hlen : cl.length ≤ 100) (hroom : used + sumB cl ≤ room) (hn : n < 699) (hxl : x.s.l ≠ []) (hlen2 : cl.length ≤ x.s.l.length) :
  Calls Tryz.prog 69 #[.pointer (some ⟨lb, 0, none⟩), .int .i64 es0.length, v] w (SwPost B w lb db mb p lim ev beg es0 x es1 L S room used fuse F n cl) := by
 have D := Lib.hid D0
 have HST := Lib.hid hst
 have HXL := Lib.hid hxl
 obtain ⟨sv, G, hV, hSS⟩ := D0.lg
 obtain ⟨oa, cap, rfl, hk⟩ := hv
 have hN : (es0 ++ x :: es1).length = es0.length + 1 + es1.length := by simp; omega
 have he1 : 1 ≤ es1.length := by
  cases es1 with
  | nil => exact absurd rfl hes1
  | cons a l => simp
 obtain ⟨g, scap, rfl⟩ : ∃ g scap, sv = .slice (some ⟨g, 0, none⟩) (es0 ++ x :: es1).length scap := by
  rcases (hV.ow rfl).1.2 with ⟨-, h0⟩ | ⟨g, scap, cur, e, -⟩
  ·omega
  ·exact ⟨g, scap, e⟩
 have hxk : (es0 ++ x :: es1)[es0.length]? = some x := by simp
 have hnE := D0.nE
 have hn1 := D0.n1
 have hsc : w.cell? ((⟨g, 0, none⟩ : Addr).add es0.length) = some (segV x) := by
  obtain ⟨oa2, cap2, e2, -, -, h4⟩ := hV.rd
  injection e2 with e2 _ _
  obtain ⟨a, e3, h5, -⟩ := h4 _ _ hxk
  rw [e3] at e2
  injection e2 with e2
  rw [e2]
  exact h5
 have hxm : x ∈ es0 ++ x :: es1 := by simp
 have hSg := hV.sg x hxm
 have c0 : w.cell? ⟨lb, 0, none⟩ = some (.string p) := (cell_of hV.b 0).trans rfl
 have c1 : w.cell? ⟨lb, 1, none⟩ = some (.int .i64 lim) := (cell_of hV.b 1).trans rfl
 have c2 : w.cell? ⟨lb, 2, none⟩ = some (.int .i64 ev) := (cell_of hV.b 2).trans rfl
 have c3 : w.cell? ⟨lb, 3, none⟩ = some (.pointer (some ⟨db, 0, none⟩)) := (cell_of hV.b 3).trans rfl
 have c5 : w.cell? ⟨lb, 5, none⟩ = some (.slice (some ⟨g, 0, none⟩) (es0 ++ x :: es1).length scap) := (cell_of hV.b 5).trans rfl
 have C0 := Lib.hid (And.intro c0 (And.intro c1 (And.intro c2 (And.intro c3 c5))))
 have HSC := Lib.hid hsc
 have HV := Lib.hid hV
 have HSS := Lib.hid hSS
 have HK := Lib.hid hk
 have HCL := Lib.hid hcl
 have HEND := Lib.hid hend
 have HNE := Lib.hid hne
 have HSG := Lib.hid hSg
 have HROOM := Lib.hid hroom
 have HES := Lib.hid (And.intro hN he1)
 have hcl0 : 1 ≤ cl.length := by
  cases cl with
  | nil => exact absurd rfl hne
  | cons a l => simp
 have hn37 : ¬ (cl.length : Int) = 0 := by omega
 have hge : ¬ (es0.length : Int) ≥ ((es0.length + 1 + es1.length : Nat) : Int) - 1 := by omega
 have hbnd : es0.length + 1 + es1.length ≤ 700 := by omega
 unfold segV at hsc
 rw [add_lit] at hsc
 rw [hN] at c5
 have hp2 := D0.lg.p2
 clear D0 hst hxl hV hSS hk hcl hend hne hSg hroom hxk hxm hn37 hge hN
 have hb1 : decide ((es0.length : Int) < 0) = false := by simp
 have hb2 : decide ((es0.length : Int) + 1 + (es1.length : Int) - 1 ≤ (es0.length : Int)) = false := by simp; omega
 have hb3 : ((cl.length : Int) == 0) = false := beq_eq_false_iff_ne.2 (by omega)
 go_enter Tryz.func69, Tryz.ntmps69
 go_wp2_with fail
 clear hb1 hb2 hb3
 refine (sbase_walk HSG.out).mono ?_
 rintro e w1 ⟨rfl, rfl⟩
 go_wp2_with fail
 go_loopw [8, 9, 49] (fun en by' i wr => ∃ k : Nat, i = .int .i64 k ∧ k ≤ cl.length ∧ en = .int .i64 (endOf x.s.base (cl.take k)) ∧ by' = .string (catB (cl.take k)) ∧ Fr (fun _ => False) w wr) (fun _ _ i _ => cl.length - (intOf i).toNat)
 case atStart => exact ⟨0, rfl, Nat.zero_le _, rfl, rfl, Fr.same _⟩
 case round =>
  obtain ⟨k, rfl, hkl, rfl, rfl, hf⟩ := hrel
  have F1 := Lib.hid hf
  clear hf
  rcases Nat.lt_or_ge k cl.length with hlt | hge
  ·obtain ⟨b, hb⟩ := get_of_lt hlt
   obtain ⟨A2, rv, rfl, -, hc, hr⟩ := HK.out k b hb
   obtain ⟨d0, d1, d2, d3, d4, d5⟩ := hc.to (F1.out.block _ hc.lt fun h => h)
   have hr2 := hr.old F1.out
   have hh := hr2
   obtain ⟨ra, rcap, rfl, -⟩ := hh
   have hok := (HCL.out.ok b (List.mem_of_getElem? hb)).1
   have hrise : ¬ b.base < endOf x.s.base (cl.take k) := by
    have h1 := HCL.out.pair
    cases e : (cl.take k).getLast? with
    | none =>
     have h2 : endOf x.s.base (cl.take k) = x.s.base := by unfold endOf; rw [e]
     have := (h1.2 b (List.mem_of_getElem? hb)).1
     omega
    | some a =>
     have h2 : endOf x.s.base (cl.take k) = a.base + a.span := by unfold endOf; rw [e]
     have h3 : (cl.take k)[(cl.take k).length - 1]? = some a := by rw [← List.getLast?_eq_getElem?]; exact e
     have h4 : (cl.take k).length = k := by rw [List.length_take]; omega
     have h5 : 0 < k := by
      rcases Nat.eq_zero_or_pos k with h | h
      ·subst h; simp at e
      ·exact h
     rw [h4, List.getElem?_take, if_pos (by omega)] at h3
     have := chn_end_le HCL.out h3 hb (by omega)
     omega
   have hsn := take_snoc' hb
   have hen : endOf x.s.base (cl.take (k + 1)) = b.base + b.span := by rw [hsn]; unfold endOf; rw [List.getLast?_concat]
   have hct : catB (cl.take (k + 1)) = catB (cl.take k) ++ batS b := by rw [hsn, catB_snoc]
   have x0 := hok.base0
   have x1 := hok.base1
   have x2 := hok.span0
   have x3 := hok.span1
   have HX := Lib.hid (And.intro hen hct)
   have HSN := Lib.hid hsn
   have FA := Lib.hid (F1.out.alloc (.cells (batBox b (.slice ra b.recs.length rcap)) 36))
   have XA := Lib.hid (heap_alloc_self wr (.cells (batBox b (.slice ra b.recs.length rcap)) 36))
   have HE := Lib.hid (bencode_walk _ b _ _ (hr2.old ((Fr.same wr).alloc (.cells (batBox b (.slice ra b.recs.length rcap)) 36))) (HST.out.old FA.out))
   have HOK := Lib.hid hok
   have HRI := Lib.hid hrise
   obtain ⟨E, hE⟩ : ∃ E, E = endOf x.s.base (cl.take k) := ⟨_, rfl⟩
   obtain ⟨T, hT⟩ : ∃ T, T = catB (cl.take k) := ⟨_, rfl⟩
   have HET := Lib.hid (And.intro hE hT)
   rw [← hE, ← hT]
   unfold batV at HE
   unfold batBox at FA XA HE
   clear hb hc hr hr2 hok hrise hsn hen hct hE hT
   go_wp2_with fail
   refine HE.out.mono ?_
   rintro e w4 ⟨hq, hf4⟩
   have hq2 : e = .returned (.tuple #[.string (batS b), .int .i64 0]) := by
    rcases hq with ⟨-, h⟩ | ⟨h, -⟩
    ·exact h
    ·exact absurd HOK.out h
   subst hq2
   have F4 := Lib.hid (FA.out.tr hf4)
   have X4 := Lib.hid ((hf4.block _ (lt_of_heap XA.out) fun h => h).trans XA.out)
   have f0 : w4.cell? ⟨wr.heap.size, 0, none⟩ = some (.int .i64 b.base) := (cell_of X4.out 0).trans rfl
   have f1 : w4.cell? ⟨wr.heap.size, 1, none⟩ = some (.int .i64 b.span) := (cell_of X4.out 1).trans rfl
   have hrise : ¬ b.base < E := by have := HRI.out; have := HET.out.1; omega
   have hz : T.size + (batS b).size ≤ 4194304 := by
    have h1 := sumB_take_all cl (k + 1)
    rw [HSN.out, sumB_snoc] at h1
    have := D.out.rm
    have := D.out.ok.u0
    have := HROOM.out
    rw [HET.out.2, catB_size]
    unfold bsz at h1
    omega
   clear hq hf4 HE XA FA d0 d1 d2 d3 d4 d5
   go_wp2_with fail
   go_roundw
   case rel => exact ⟨k + 1, by go_num, hlt, by rw [HX.out.1], by rw [HX.out.2, HET.out.2], F4.out⟩
   case measure => simp [intOf]; omega
  ·obtain rfl : k = cl.length := by omega
   rw [List.take_length]
   have hle : ¬ x.s.end' < endOf x.s.base cl := by have := HEND.out; omega
   have z0 : ∀ y : Lcl.InS (fun w' => Fr (fun _ => False) wr w'), y.w.cell? ⟨lb, 0, none⟩ = some (.string p) := fun y => (F1.out.tr y.h).cel C0.out.1
   have z1 : ∀ y : Lcl.InS (fun w' => Fr (fun _ => False) wr w'), y.w.cell? ⟨lb, 1, none⟩ = some (.int .i64 lim) := fun y => (F1.out.tr y.h).cel C0.out.2.1
   have z2 : ∀ y : Lcl.InS (fun w' => Fr (fun _ => False) wr w'), y.w.cell? ⟨lb, 2, none⟩ = some (.int .i64 ev) := fun y => (F1.out.tr y.h).cel C0.out.2.2.1
   have hbb := HV.out.evs x (by simp)
   clear hkl hge hsc c0 c1 c2 c3 c5
   go_wp2_with fail
   refine (send_walk (HSG.out.old F1.out)).mono ?_
   rintro e w2 ⟨rfl, rfl⟩
   go_wp2_with fail
   refine Lcl.wp_region_calm (by kernel_rfl) [(true, [0, 1, 2, 4]), (false, [3])] #[0, 1, 3, 7, 0, 16, 63, 127] [0, 1, 2, 3, 4, 5] 3 #[true, true, true, true, true, false, false, false] (by kernel_rfl) (by kernel_rfl) (by kernel_rfl) (fun w' => Fr (fun _ => False) wr w') (Fr.same wr).drew (fun d c a v w h => by cases d <;> exact h) ?_
   simp only [Lcl.opsOf, List.map_cons, List.map_nil, List.getElem?_toArray, List.getElem?_cons_succ, List.getElem?_cons_zero, Option.getD_some]
   refine Lcl.wpCalm_t ?_
   repeat (go_big_quiet_step (rfl))
   refine wpQuiet_nil ?_
   refine Lcl.wpCalm_f ?_
   repeat (go_big_quiet_step (rfl))
   refine wpQuiet_nil ?_
   refine Lcl.wpCalm_nil ?_
   clear z0 z1 z2
   refine Lcl.wpG_one 5 rfl (by kernel_rfl) ?_
   go_wp2_with fail
   refine (sbase_walk (HSG.out.old F1.out.drew)).mono ?_
   rintro e w2 ⟨rfl, rfl⟩
   go_wp2_with fail
   refine ⟨fun _ _ => (Fr.same wr).drew, ?_⟩
   have HNM := Lib.hid (name_walk p lim ev x.s.base hbb wr.drew hp2)
   unfold cfgV at HNM
   refine Lcl.wpG_one 6 rfl (by kernel_rfl) ?_
   go_wp2_with fail
   refine HNM.out.mono ?_
   rintro e w2 ⟨rfl, hf2⟩
   have F2' := Lib.hid (F1.out.drew.tr hf2)
   have F2r := Lib.hid ((Fr.same wr).drew.tr hf2)
   clear hf2 HNM
   go_wp2_with fail
   refine ⟨fun _ _ => F2r.out, ?_⟩
   refine Lcl.wpG_run [7] _ _ _ (by kernel_rfl) ?_
   simp only [List.map_cons, List.map_nil, List.getElem?_toArray, List.getElem?_cons_succ, List.getElem?_cons_zero, Option.getD_some]
   obtain ⟨c0, c1, c2, c3, c5⟩ := C0.out
   have c0 := F2'.out.cel c0
   have c1 := F2'.out.cel c1
   have c2 := F2'.out.cel c2
   have HSW := Lib.hid (swap_walk p lim ev w2 hp2)
   unfold cfgV at HSW
   clear c3 c5
   go_wp2_with fail
   refine HSW.out.mono ?_
   rintro e w3 ⟨rfl, hf3⟩
   have F3 := Lib.hid (F2'.out.tr hf3)
   have hin : (getL L (nmS p x.s.base)).isSome = true := D.out.fl.has (by unfold segsOf; simp) HXL.out
   have hnm := nmS_size p x.s.base
   have hsw := swapS_size p
   have hp1 := D.out.lg.p1
   have HW := Lib.hid (lwrite_u (lb := lb) (way := swapS p) (bytes := catB cl) (name := nmS p x.s.base) (D.out.dku.old F3.out) (F3.out.cel C0.out.2.2.2.1) (D.out.lg.lbap.1) D.out.rm (by rw [catB_size]; exact HROOM.out) (by have := D.out.nL; omega) (fun e => nmS_swap p _ e.symm) (by omega) (by omega) (by omega) (by omega) hin)
   have HIN := Lib.hid hin
   clear hf3 HSW c0 c1 c2 hin
   go_wp2_with fail
   refine HW.out.mono ?_
   rintro e w4 ⟨c, rfl, wA, hfA, hok, hno⟩
   have FA := Lib.hid (F3.out.tr hfA)
   clear hfA HW
   by_cases hc : c = 0
   ·subst hc
    have HOK := Lib.hid (hok rfl)
    obtain ⟨L2, used2, fu, F2, hd2, hfu2, hL2, hF2, hFx2, hfo2, hfr2, hl2, hub2⟩ := HOK.out
    have hF04 : Fr (DkS db mb L) w w4 := (FA.out.mono fun i h => h.elim).trans hfr2 fun i hi => .inl hi
    have hV4 := HV.out.fr hF04 fun i hi => HV.out.ap i hi
    have d2 : w4.cell? ⟨lb, 2, none⟩ = some (.int .i64 ev) := (cell_of hV4.b 2).trans rfl
    have d3 : w4.cell? ⟨lb, 3, none⟩ = some (.pointer (some ⟨db, 0, none⟩)) := (cell_of hV4.b 3).trans rfl
    have hlbn : ¬ DkS db mb L2 lb := fun h => by
     rcases hfo2 lb h with h | h
     ·exact HV.out.ap lb (.inl rfl) h
     ·have := (HV.out.lt lb (.inl rfl)).2
      have := FA.out.size
      omega
    have z2 : ∀ y : Lcl.InS (fun w' => Fr (DkS db mb L2) w4 w'), y.w.cell? ⟨lb, 2, none⟩ = some (.int .i64 ev) := fun y => y.h.cell d2 hlbn
    have z3 : ∀ y : Lcl.InS (fun w' => Fr (DkS db mb L2) w4 w'), y.w.cell? ⟨lb, 3, none⟩ = some (.pointer (some ⟨db, 0, none⟩)) := fun y => y.h.cell d3 hlbn
    have HV4 := Lib.hid hV4
    have HSG4 := Lib.hid (hV4.sg x (by simp))
    have HW4 := Lib.hid (And.intro hd2 (And.intro hfu2 (And.intro hL2 (And.intro hF2 (And.intro hFx2 (And.intro hfo2 (And.intro hl2 hub2)))))))
    have F04 := Lib.hid hF04
    clear hok hno hd2 hfu2 hL2 hF2 hFx2 hfo2 hl2 hub2 hfr2 hF04 hV4 d2 d3 hlbn HOK
    go_wp2_with fail
    refine Lcl.wp_region_calm (by kernel_rfl) [(true, [0, 1, 2, 4, 5, 7, 8, 9, 10]), (false, [3, 11])] #[0, 1, 3, 7, 0, 0, 32, 0, 128, 384, 896, 1920, 4095, 8191, 16383, 16383, 32767, 131071] [0, 1, 2, 3, 4, 5, 6, 7, 8, 9, 10, 11] 7 #[true, true, true, true, true, true, false, true, true, true, true, true, false, false, false, false, false, false] (by kernel_rfl) (by kernel_rfl) (by kernel_rfl) (fun w' => Fr (DkS db mb L2) w4 w') (Fr.refl _ w4).drew (fun d c a v w h => by cases d <;> exact h) ?_
    simp only [Lcl.opsOf, List.map_cons, List.map_nil, List.getElem?_toArray, List.getElem?_cons_succ, List.getElem?_cons_zero, Option.getD_some]
    refine Lcl.wpCalm_t ?_
    repeat (go_big_quiet_step (rfl))
    refine wpQuiet_nil ?_
    refine Lcl.wpCalm_f ?_
    repeat (go_big_quiet_step (rfl))
    refine wpQuiet_nil ?_
    refine Lcl.wpCalm_nil ?_
    clear z2 z3
    refine Lcl.wpG_one 6 rfl (by kernel_rfl) ?_
    go_wp2_with fail
    refine (sbase_walk (HSG4.out.old (Fr.same w4).drew)).mono ?_
    rintro e w5 ⟨rfl, rfl⟩
    go_wp2_with fail
    refine ⟨fun _ _ => (Fr.refl _ w4).drew, ?_⟩
    have hdr : Fr (fun _ => False) w4 w4.drew := (Fr.same w4).drew
    have hd5 := HW4.out.1.old hdr
    have hsz4 : w.heap.size ≤ w4.drew.heap.size := (F04.out.trans hdr fun i h => h.elim).size
    by_cases hfz : fu = 0
    ·subst hfz
     have HOP := Lib.hid (sopen_down hd5.dk (nmS p x.s.base) (by omega) (by omega) x.s.base ev hbb HV.out.e1 HV.out.e2)
     refine Lcl.wpG_one 12 rfl (by kernel_rfl) ?_
     go_wp2_with fail
     refine HOP.out.mono ?_
     rintro e w6 ⟨rfl, hf6⟩
     have FX := Lib.hid (hdr.tr hf6)
     have HD6 := Lib.hid (hd5.old hf6)
     clear hf6 hd5 hdr HOP
     go_wp2_with fail
     refine ⟨fun h => absurd h (by decide), ?_⟩
     refine Lcl.wpG_calm (m := #[0, 1, 3, 7, 0, 0, 32, 0, 128, 384, 896, 1920, 4095, 8191, 16383, 16383, 32767, 131071]) (needs := [0, 1, 2, 3, 4, 5, 6, 7, 8, 9, 10, 11]) (fuel := 0) (by kernel_rfl) ?hqA (FX.out.mono fun i h => Or.inl h.elim) [(true, [13, 14, 15, 16, 17])] _ _ ?k1A ?k2A ?k3A ?k4A
     case hqA => exact fun d c a v w h => by cases d <;> exact h
     case k1A => kernel_rfl
     case k2A => rfl
     case k3A => kernel_rfl
     simp only [Lcl.opsOf, List.map_cons, List.map_nil, List.getElem?_toArray, List.getElem?_cons_succ, List.getElem?_cons_zero, Option.getD_some]
     refine Lcl.wpCalm_t ?_
     repeat (go_big_quiet_step (rfl))
     refine wpQuiet_nil ?_
     refine Lcl.wpCalm_nil ?_
     refine Lcl.wpG_run [] _ _ _ (by kernel_rfl) ?_
     simp only [List.map_cons, List.map_nil, List.getElem?_toArray, List.getElem?_cons_succ, List.getElem?_cons_zero, Option.getD_some]
     have hsw := logd_swd D.out hes1 HNE.out HCL.out HEND.out hlen2 HD6.out HW4.out.2.2.1 HW4.out.2.2.2.1 HW4.out.2.2.2.2.1 (fun i hi => (HW4.out.2.2.2.2.2.1 i hi).imp id fun h => by have := FA.out.size; omega) HW4.out.2.2.2.2.2.2.1
     have hfin : Fr (fun i => S i ∨ DkS db mb L i) w w6 := (F04.out.mono fun i h => .inl (.inr h)).trans FX.out fun i h => h.elim
     have HPOST := Lib.hid (show SwPost B w lb db mb p lim ev beg es0 x es1 L S room used fuse F n cl (.returned (.int .i64 7)) w6 from ⟨7, rfl, hfin, fun h => absurd h (by decide), fun _ => ⟨fun h => by have := HW4.out.2.1 h; omega, _, L2, used2, 0, F2, ⟨hsw.1.d, hsw.1.rm, hsw.1.fl, hsw.1.ch, hsw.1.dl, hsw.1.b1, by have := hsw.1.nL; omega, by have := hsw.1.nE; omega, by have := hsw.1.nB; omega, by omega, hsw.1.b0, hsw.1.p1, hsw.1.p2⟩, .inr rfl, hsw.2, fun i hi => (HW4.out.2.2.2.2.2.1 i hi).imp id fun h => by have := FA.out.size; omega⟩⟩)
     clear hsw hfin
     go_wp2_with fail
     go_ret
     exact HPOST.out
    ·have hgs : (getL L2 (nmS p x.s.base)).isSome = true := by rw [HW4.out.2.2.1, if_pos rfl]
     obtain ⟨fb, hgb⟩ := Option.isSome_iff_exists.1 hgs
     have hcs : sumB cl ≤ 4194304 := by
      have := D.out.rm
      have := D.out.ok.u0
      have := HROOM.out
      omega
     have hB2 := D.out.b2
     have hB1 := D.out.b1
     have HOP := Lib.hid (sopen_some (B := B) hd5.dk hd5.ok hfz (nmS p x.s.base) (by omega) (by omega) x.s.base ev hbb HV.out.e1 HV.out.e2 hgb (catB cl) (catB cl).size HW4.out.2.2.2.1 (by rw [catB_size]; omega) cl (sumB cl) (scan_all HCL.out (by omega)) (HST.out.fr (F04.out.trans hdr fun i h => h.elim) fun h => by have := D.out.dl 0 h; omega) (by omega) (by omega) (by omega))
     clear hgs hcs hgb
     refine Lcl.wpG_one 12 rfl (by kernel_rfl) ?_
     go_wp2_with fail
     refine HOP.out.mono ?_
     rintro e w6 ⟨sb, So, rfl, hso, hSo, -, hsame, hfo6⟩
     have hd6 := hsame (by rw [catB_size]; omega)
     have HD6 := Lib.hid (show DkU w6 db mb room used2 fu L2 F2 from ⟨hd6, HW4.out.1.ok, HW4.out.1.us, HW4.out.1.ur⟩)
     have FX := Lib.hid ((hdr.mono (S' := DkS db mb L2) fun i h => h.elim).trans hfo6 fun i h => .inl h)
     have SOX := Lib.hid (And.intro hso (fun i (hi : So i) => (show w.heap.size ≤ i ∧ i < w6.heap.size ∧ w4.heap.size ≤ i from ⟨by have := (hSo i hi).1; omega, (hSo i hi).2, by have := (hSo i hi).1; exact this⟩)))
     clear hso hSo hsame hfo6 hd6 hd5 hdr HOP
     go_wp2_with fail
     refine ⟨fun h => absurd h (by decide), ?_⟩
     refine Lcl.wpG_calm (m := #[0, 1, 3, 7, 0, 0, 32, 0, 128, 384, 896, 1920, 4095, 8191, 16383, 16383, 32767, 131071]) (needs := [0, 1, 2, 3, 4, 5, 6, 7, 8, 9, 10, 11]) (fuel := 0) (by kernel_rfl) ?hqB (FX.out) [(true, [13, 14, 15, 16, 17])] _ _ ?k1B ?k2B ?k3B ?k4B
     case hqB => exact fun d c a v w h => by cases d <;> exact h
     case k1B => kernel_rfl
     case k2B => rfl
     case k3B => kernel_rfl
     simp only [Lcl.opsOf, List.map_cons, List.map_nil, List.getElem?_toArray, List.getElem?_cons_succ, List.getElem?_cons_zero, Option.getD_some]
     refine Lcl.wpCalm_t ?_
     repeat (go_big_quiet_step (rfl))
     refine wpQuiet_nil ?_
     refine Lcl.wpCalm_nil ?_
     refine Lcl.wpG_run [] _ _ _ (by kernel_rfl) ?_
     simp only [List.map_cons, List.map_nil, List.getElem?_toArray, List.getElem?_cons_succ, List.getElem?_cons_zero, Option.getD_some]
     have hDk4 : ∀ i, DkS db mb L2 i → DkS db mb L i ∨ w.heap.size ≤ i := fun i hi => (HW4.out.2.2.2.2.2.1 i hi).imp id fun h => by have := FA.out.size; omega
     have hf06 : Fr (DkS db mb L) w w6 := F04.out.trans FX.out fun i hi => hDk4 i hi
     have hV6 := HV.out.fr hf06 fun i hi => HV.out.ap i hi
     have hG : G g := (HV.out.ow rfl).2 g rfl
     have d5 : w6.cell? ⟨lb, 5, none⟩ = some (.slice (some ⟨g, 0, none⟩) (es0.length + 1 + es1.length) scap) := by
      rw [← HES.out.1]
      exact (cell_of hV6.b 5).trans rfl
     have ho6 := (hV6.ow rfl).1
     have fz6 := own_fz ho6 es0.length
     have hcg : ∃ u, w6.cell? ⟨g, es0.length, none⟩ = some u := ⟨_, hf06.cell (by have h := HSC.out; rw [add_lit] at h; exact h) (HV.out.ap g (.inr (.inl hG)))⟩
     obtain ⟨ug, hcg⟩ := hcg
     have hys : ∀ i, So i → w4.heap.size ≤ i := fun i hi => (SOX.out.2 i hi).2.2
     have hsw := logd_swd (w2 := w6.setCell ⟨g, es0.length, none⟩ (segV ⟨sb, ⟨x.s.base, ev, cl⟩, So⟩)) D.out hes1 HNE.out HCL.out HEND.out hlen2 (HD6.out.fr (R := fun i => i = g) (Fr.setCell (S := fun i => i = g) (p := ⟨g, es0.length, none⟩) (Fr.refl _ w6) (.inl rfl) _) fun i hi e => by
      rcases hDk4 i hi with h | h
      ·rw [e] at h; exact HV.out.ap g (.inr (.inl hG)) h
      ·have := (HV.out.lt g (.inr (.inl hG))).2; omega) HW4.out.2.2.1 HW4.out.2.2.2.1 HW4.out.2.2.2.2.1 hDk4 HW4.out.2.2.2.2.2.2.1
     have hlog := logd_swl (y := ⟨sb, ⟨x.s.base, ev, cl⟩, So⟩) D.out hes1 HV.out HSS.out rfl hsw.1 hf06 rfl SOX.out.1 (fun i hi => ⟨(SOX.out.2 i hi).1, (SOX.out.2 i hi).2.1⟩) (fun i hi h => by have := HW4.out.1.dk.lt h; have := hys i hi; omega) hDk4 fun i hi => HD6.out.dk.lt hi
     obtain ⟨S', hD', hfo', hfr'⟩ := hlog
     have hfile : (curF L F (nmS p x.s.base)).1 = catB x.s.l := D.out.fl.file x.s (by unfold segsOf; simp)
     have hub := HW4.out.2.2.2.2.2.2.2
     rw [hfile, catB_size, catB_size] at hub
     have HPOST := Lib.hid (show SwPost B w lb db mb p lim ev beg es0 x es1 L S room used fuse F n cl (.returned (.int .i64 0)) (w6.setCell ⟨g, es0.length, none⟩ (segV ⟨sb, ⟨x.s.base, ev, cl⟩, So⟩)) from ⟨0, rfl, hfr', fun _ => ⟨sb, So, L2, S', used2, fu, F2, hD', HW4.out.2.1, hub, fun h => by rw [segs_mid (x := ⟨sb, ⟨x.s.base, ev, cl⟩, So⟩)]; exact hsw.2 h, hfo'⟩, fun h => absurd rfl h⟩)
     unfold segV at HPOST
     clear hsw hD' hfo' hfr' hfile hub hys hV6 ho6 hf06 hDk4
     go_wp2_with fail
     go_ret
     exact HPOST.out
   ·obtain ⟨hfu, L2, used2, fu, F2, hd2, hx2, hfo2, hfr2, hl2⟩ := hno hc
    have hfin : Fr (fun i => S i ∨ DkS db mb L i) w w4 := (FA.out.mono fun i h => h.elim).trans hfr2 fun i hi => .inl (.inr hi)
    have HPOST := Lib.hid (show SwPost B w lb db mb p lim ev beg es0 x es1 L S room used fuse F n cl (.returned (.int .i64 c)) w4 from ⟨c, rfl, hfin, fun h => absurd h hc, fun _ => ⟨hfu, segsOf (es0 ++ x :: es1), L2, used2, fu, F2, ⟨hd2, D.out.rm, D.out.fl.keep hx2, fun s hs => D.out.chn hs, fun i hi => by
     rcases hfo2 i hi with h | h
     ·exact D.out.dl i h
     ·have := D.out.b2; have := FA.out.size; omega, D.out.b1, by have := D.out.nL; omega, by have := D.out.dlg.nE; omega, by have := D.out.dlg.nB; omega, by omega, D.out.b0, hp1, hp2⟩, .inl rfl, fun hls y hy => by
     rw [curF_congr (hx2 _ (nmS_swap p _)).1 (hx2 _ (nmS_swap p _)).2]
     exact hls y hy, fun i hi => (hfo2 i hi).imp id fun h => by have := FA.out.size; omega⟩⟩)
    clear hok hno hd2 hx2 hfo2 hfr2 hl2 hfin
    go_wp2_with fail
    go_ret
    exact HPOST.out
end
end Go.Proofs.YtdlnafhhkpklmaaGreatDoor
