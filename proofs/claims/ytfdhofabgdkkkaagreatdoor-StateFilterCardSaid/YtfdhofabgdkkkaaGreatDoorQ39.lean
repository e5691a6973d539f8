/- A filter as text: Print; a request's filter. -/
import Derived.Test.YtfdhofabgdkkkaaGreatDoorQ38
import Derived.Test.YtfdhofabgdkkkaaGreatDoorQ33
namespace Go.Proofs.YtfdhofabgdkkkaaGreatDoor
open Go.RowKit Go.Fm Go.BigFrame Go.Shelf Go.Maps
set_option linter.unusedVariables false
set_option linter.unusedSimpArgs false
set_option maxRecDepth 100000
section
variable {w w' : World} {S : Nat → Prop} {K : Nat → Prop}
theorem capF_sz : ∀ (F : Fst) (n : Nat), capF F n < 100 → capF F n = n + F.sz
 | .nil, n, h => by simp [capF, Fst.sz]
 | .cons op nm vl ks r, n, h => by
  rw [capF_cons] at h ⊢
  by_cases h1 : 100 ≤ n
  ·rw [if_pos h1] at h; omega
  ·rw [if_neg h1] at h ⊢
   have h2 := capF_ge r (capF ks (n + 1))
   have h3 := capF_sz ks (n + 1) (by omega)
   have h4 := capF_sz r _ h
   rw [h4, h3]
   simp only [Fst.sz]
   omega
theorem exL_len {op : Int} {nm vl : ByteArray} {ks : Fst} (h : checkB op nm vl ks = true) : (exL op nm vl ks).length ≤ 60630 := by
 unfold checkB at h
 simp only [Bool.and_eq_true, decide_eq_true_eq] at h
 obtain ⟨h1, h2⟩ := h
 obtain ⟨h3, h4⟩ := part_fits h2
 have e := capF_sz ks 1 (by omega)
 have := opL_len (fits_in h3)
 have := exK_len ks _ h4
 unfold exL
 rw [List.length_append]
 omega
def exS (op : Int) (nm vl : ByteArray) (ks : Fst) : ByteArray := ⟨(exL op nm vl ks).toArray⟩
theorem exS_size (op : Int) (nm vl : ByteArray) (ks : Fst) : (exS op nm vl ks).size = (exL op nm vl ks).length := by simp [exS, ByteArray.size]
/-- What Print tells: whether a filter may be, and its bytes. -/
def PrPost (ok : Bool) (s : ByteArray) (w : World) (e : Ending) (w' : World) : Prop := e = .returned (.tuple #[.string (if ok then s else ⟨#[]⟩), .int .i64 (if ok then 0 else 1)]) ∧ Fr (fun _ => False) w w'
set_option maxHeartbeats 32000000 in
theorem print_walk (op : Int) (nm vl : ByteArray) (kv : Value) (ks : Fst) (hk : KidR K w kv ks) (ho : ∀ i, K i → i < w.heap.size) : Calls Tryz.prog 189 #[exV op nm vl kv] w (PrPost (checkB op nm vl ks) (exS op nm vl ks) w) := by
 obtain ⟨oa, cap, rfl, -⟩ := id hk
 have f1 := (Fr.same w).alloc (.cells #[.int .i64 op, .string nm, .string vl, .slice oa ks.len cap] 38)
 have CH := Lib.hid (xcheck_walk op nm vl _ ks (hk.old f1) fun i hi => Nat.lt_of_lt_of_le (ho i hi) f1.size)
 have F1 := Lib.hid f1
 have X1 := Lib.hid (heap_alloc_self w (.cells #[.int .i64 op, .string nm, .string vl, .slice oa ks.len cap] 38))
 have KW := Lib.hid hk
 have dx := cell_alloc_new w #[.int .i64 op, .string nm, .string vl, .slice oa ks.len cap] 38
 unfold exV at CH ⊢
 clear f1 hk
 go_enter Tryz.func189, Tryz.ntmps189
 go_wp2_with fail
 generalize (w.alloc (.cells #[.int .i64 op, .string nm, .string vl, .slice oa ks.len cap] 38)) = w1 at *
 refine CH.out.mono ?_
 rintro e w2 ⟨rfl, f2⟩
 have F2 := Lib.hid (F1.out.tr f2)
 have X2 := Lib.hid (blk X1.out f2 fun h => h)
 clear f2 CH dx F1 X1
 obtain ⟨cb, hcb⟩ : ∃ cb, cb = checkB op nm vl ks := ⟨_, rfl⟩
 rw [← hcb]
 have HCB := Lib.hid hcb
 clear hcb
 cases cb with
 | false =>
  simp only [Bool.false_eq_true, if_false]
  go_wp2_with fail
  go_ret2
  refine ⟨?_, F2.out⟩
  rw [← HCB.out]
  rfl
 | true =>
  simp only [if_true]
  have hp : partB op nm vl ks 6 = true := by
   have := HCB.out.symm
   unfold checkB at this
   simp only [Bool.and_eq_true] at this
   exact this.2
  have hl := exL_len HCB.out.symm
  have WW := Lib.hid (xwrite_walk (K := K) w2.heap.size (fun i hi => Nat.lt_of_lt_of_le (ho i hi) F2.out.size) (ks.sz + 1) ks op nm vl _ 6 (.slice none 0 0) [] w2 (by omega) hp (by simp; omega) (KW.out.old F2.out) (Nat.le_refl _) (World.ownsRow_nil _ _ _ _))
  unfold exV at WW
  have dx := cell_of X2.out
  go_wp2_with fail
  refine WW.out.mono ?_
  rintro e w3 ⟨v3, rfl, o3, g3⟩
  have F3 := Lib.hid (F2.out.tr g3.top)
  rw [List.nil_append] at o3
  unfold Own5 at o3
  obtain ⟨L, hL⟩ : ∃ L, L = exL op nm vl ks := ⟨_, rfl⟩
  rw [← hL] at o3
  have hpos : 0 < L.length := by rw [hL]; unfold exL opL; simp
  have HL := Lib.hid hL
  obtain ⟨og, cg, rfl, hat⟩ := own_at o3
  obtain ⟨gg, rfl, -, -, hcell⟩ := hat hpos
  have hconv := run_convert_bytes_back (P := Tryz.prog) w3 305 9 5 ⟨gg, 0, none⟩ cg L Tryz.underlying305 Tryz.underlying5 Tryz.underlying9 (fun j hj => by
   rw [add_lit]
   refine hcell j _ ?_
   rw [List.getElem?_map, List.getElem?_eq_getElem hj]; rfl)
  clear o3 g3 WW dx hat hcell hL hpos hp hl
  go_wp2_with fail
  go_ret2
  refine ⟨?_, F3.out⟩
  rw [← HCB.out]
  unfold exS
  rw [← HL.out]
  rfl
end
end Go.Proofs.YtfdhofabgdkkkaaGreatDoor
/- A machine that is none; what goes to it, and comes back. -/
namespace Go.Proofs.YtfdhofabgdkkkaaGreatDoor
open Go.RowKit Go.Fm Go.BigFrame Go.Shelf Go.Maps
set_option linter.unusedVariables false
set_option linter.unusedSimpArgs false
set_option maxRecDepth 100000
section
variable {P : Program} {w : World}
end
section
variable {w w' : World} {S : Nat → Prop} {K : Nat → Prop}
end
end Go.Proofs.YtfdhofabgdkkkaaGreatDoor
/- Small: the walk. -/
namespace Go.Proofs.YtfdhofabgdkkkaaGreatDoor
open Go.RowKit Go.Fm Go.BigFrame
set_option linter.unusedVariables false
set_option linter.unusedSimpArgs false
theorem take_snoc' {α : Type} {l : List α} {k : Nat} {x : α} (h : l[k]? = some x) : l.take (k + 1) = l.take k ++ [x] := by
 rw [List.take_add_one, h]; rfl
def hdrW (h : Hdr) : Nat := h.key.size + h.val.size
def hdrsW (hs : List Hdr) : Nat := (hs.map hdrW).sum
def recW (r : Rec) : Nat := r.key.size + r.val.size + hdrsW r.hs
def recsW (rs : List Rec) : Nat := (rs.map recW).sum
def OkH (h : Hdr) : Prop := h.key.size ≤ 3000 ∧ h.val.size ≤ 3000
def OkR (r : Rec) : Prop := r.hs.length ≤ 12 ∧ r.key.size ≤ 3000 ∧ r.val.size ≤ 3000 ∧ ∀ h ∈ r.hs, OkH h
structure SmallB (b : Bat) : Prop where
 len : b.recs.length ≤ 50
 recs : ∀ r ∈ b.recs, OkR r
 weight : recsW b.recs ≤ 3000
theorem hdrsW_snoc (l : List Hdr) (x : Hdr) : hdrsW (l ++ [x]) = hdrsW l + hdrW x := by simp [hdrsW]
theorem recsW_snoc (l : List Rec) (x : Rec) : recsW (l ++ [x]) = recsW l + recW x := by simp [recsW]
/-- A bool is handed back; if it is true, P. -/
def AskPost (P : Prop) (w : World) (e : Ending) (w' : World) : Prop := ∃ c : Bool, e = .returned (.bool c) ∧ (c = true → P) ∧ Fr (fun _ => False) w w'
set_option maxRecDepth 100000 in
set_option maxHeartbeats 8000000 in
theorem small_walk (K : Nat → Prop) (b : Bat) (v : Value) (w : World) (h : RecsR K w v b.recs) :
  Calls Tryz.prog 13 #[batV b v] w (AskPost (SmallB b) w) := by
 obtain ⟨oa, cap, rfl, h⟩ := h
 have H := Lib.hid h
 clear h
 have hf0 := (Fr.same w).alloc (.cells (batCells b (.slice oa b.recs.length cap)).toArray 35)
 have hb5 : (w.alloc (.cells (batCells b (.slice oa b.recs.length cap)).toArray 35)).cell? ⟨w.heap.size, 5, none⟩ = some (.slice oa b.recs.length cap) := cell_alloc_new w _ 35 5
 unfold batCells at hf0 hb5
 unfold batV
 rcases Nat.lt_or_ge 50 b.recs.length with hbig | hlen
 ·go_enter Tryz.func13, Tryz.ntmps13
  go_wp2_with fail
  go_ret
  exact ⟨false, rfl, by simp, hf0⟩
 ·go_enter Tryz.func13, Tryz.ntmps13
  go_wp2_with fail
  generalize (w.alloc (.cells #[.int .i64 b.base, .int .i64 b.span, .int .i64 b.prod, .int .i64 b.epoch, .int .i64 b.seq, .slice oa b.recs.length cap] 35)) = W at *
  have F0 := Lib.hid hf0
  have B5 := Lib.hid hb5
  clear hf0 hb5
  go_loopw [3, 4] (fun n i wr => ∃ k m : Nat, i = .int .i64 k ∧ n = .int .i64 m ∧ k ≤ b.recs.length ∧ m = recsW (b.recs.take k) ∧ m ≤ 3000 ∧ (∀ r ∈ b.recs.take k, OkR r) ∧ Fr (fun _ => False) W wr) (fun _ i _ => b.recs.length - (intOf i).toNat)
  case atStart => exact ⟨0, 0, rfl, rfl, Nat.zero_le _, by simp [recsW], by omega, by simp, Fr.same _⟩
  case round =>
   obtain ⟨k, m, rfl, rfl, hk, hm, hm3, hok, hf⟩ := hrel
   have F := Lib.hid hf
   have HM := Lib.hid hm
   have HOK := Lib.hid hok
   have b5 := hf.cel B5.out
   clear hf hm hok
   rcases Nat.lt_or_ge k b.recs.length with hlt | hge
   ·obtain ⟨x, hx⟩ := get_of_lt hlt
    obtain ⟨a, hv, rfl, -, hc, hr⟩ := H.out k x hx
    have HX := Lib.hid hx
    have hfw := F0.out.tr F.out
    obtain ⟨c0, c1, c2, c3, c4, c5, c6⟩ := hc.to (hfw.block _ hc.lt fun h => h)
    have hr1 := hr.old hfw
    obtain ⟨ha, hcap, rfl, hh⟩ := hr1
    have HH := Lib.hid hh
    have hf1 := (Fr.same wr).alloc (.cells (recCells x (.slice ha x.hs.length hcap)).toArray 95)
    have d3 : (wr.alloc (.cells (recCells x (.slice ha x.hs.length hcap)).toArray 95)).cell? ⟨wr.heap.size, 3, none⟩ = some (.string x.key) := cell_alloc_new wr _ 95 3
    have d5 : (wr.alloc (.cells (recCells x (.slice ha x.hs.length hcap)).toArray 95)).cell? ⟨wr.heap.size, 5, none⟩ = some (.string x.val) := cell_alloc_new wr _ 95 5
    have d6 : (wr.alloc (.cells (recCells x (.slice ha x.hs.length hcap)).toArray 95)).cell? ⟨wr.heap.size, 6, none⟩ = some (.slice ha x.hs.length hcap) := cell_alloc_new wr _ 95 6
    unfold recCells at hf1 d3 d5 d6
    clear hx hc hfw hr hh
    by_cases hok : x.hs.length ≤ 12 ∧ x.key.size ≤ 3000 ∧ x.val.size ≤ 3000
    ·obtain ⟨hk1, hk2, hk3⟩ := hok
     go_wp2_with fail
     generalize (wr.alloc (.cells #[.int .i64 x.at', .int .i64 x.tm, .bool x.bare, .string x.key, .bool x.gone, .string x.val, .slice ha x.hs.length hcap] 95)) = W2 at *
     have F1 := Lib.hid hf1
     have D6 := Lib.hid d6
     clear c0 c1 c2 c3 c4 c5 c6 d3 d5 d6 b5 hf1
     go_loopw [3, 6] (fun n i wr => ∃ q p : Nat, i = .int .i64 q ∧ n = .int .i64 p ∧ q ≤ x.hs.length ∧ p = m + x.key.size + x.val.size + hdrsW (x.hs.take q) ∧ p ≤ 9000 ∧ (∀ h ∈ x.hs.take q, OkH h) ∧ Fr (fun _ => False) W2 wr) (fun _ i _ => x.hs.length - (intOf i).toNat)
     case atStart => exact ⟨0, m + x.key.size + x.val.size, rfl, by go_num, Nat.zero_le _, by simp [hdrsW], by omega, by simp, Fr.same _⟩
     case round =>
      obtain ⟨q, p, rfl, rfl, hq, hp, hp9, hoh, hf⟩ := hrel
      have G := Lib.hid hf
      have HP := Lib.hid hp
      have HOH := Lib.hid hoh
      have d6 := hf.cel D6.out
      clear hf hp hoh
      by_cases hcond : q < x.hs.length ∧ p ≤ 3000
      ·obtain ⟨hq1, hp1⟩ := hcond
       obtain ⟨y, hy⟩ := get_of_lt hq1
       obtain ⟨a2, rfl, -, e0, e1⟩ := HH.out q y hy
       have HY := Lib.hid hy
       have e0 := G.out.cel (F1.out.cel e0)
       have e1 := G.out.cel (F1.out.cel e1)
       clear hy
       by_cases hoy : y.key.size ≤ 3000 ∧ y.val.size ≤ 3000
       ·obtain ⟨hy1, hy2⟩ := hoy
        go_wp2_with fail
        go_quiet (fail)
        have G2 := Lib.hid (G.out.drewN nq)
        clear e0 e1 d6
        generalize wr.drewN nq = wr2 at *
        go_wp2_with fail
        go_roundw
        case rel =>
         refine ⟨q + 1, p + y.key.size + y.val.size, by go_num, by go_num, by omega, ?_, by omega, ?_, G2.out⟩
         ·rw [take_snoc' HY.out, hdrsW_snoc, HP.out]; simp only [hdrW]; omega
         ·intro h hh
          rw [take_snoc' HY.out] at hh
          rcases List.mem_append.1 hh with h1 | h1
          ·exact HOH.out h h1
          ·simp at h1; subst h1; exact ⟨hy1, hy2⟩
        case measure => simp [intOf]; omega
       ·have hoy2 : 3000 < y.key.size ∨ (y.key.size ≤ 3000 ∧ 3000 < y.val.size) := by omega
        clear hoy
        rcases hoy2 with hy1 | ⟨hy1, hy2⟩
        all_goals
         go_wp2_with fail
         go_ret
         exact ⟨false, rfl, by simp, ((F0.out.tr F.out).tr F1.out).tr G.out⟩
      ·by_cases hp3 : 3000 < p
       ·rcases Nat.lt_or_ge q x.hs.length with hq1 | hq1
        all_goals
         go_wp2_with fail
         go_ret
         exact ⟨false, rfl, by simp, ((F0.out.tr F.out).tr F1.out).tr G.out⟩
       ·have hq1 : x.hs.length ≤ q := by omega
        clear hcond
        go_wp2_with fail
        go_roundw
        case rel =>
         have h1 := HP.out
         have h2 := HOH.out
         rw [List.take_of_length_le hq1] at h1 h2
         refine ⟨k + 1, p, by go_num, rfl, by omega, ?_, by omega, ?_, (F.out.tr F1.out).tr G.out⟩
         ·rw [take_snoc' HX.out, recsW_snoc, ← HM.out, h1]; simp only [recW]; omega
         ·intro r hr
          rw [take_snoc' HX.out] at hr
          rcases List.mem_append.1 hr with h3 | h3
          ·exact HOK.out r h3
          ·simp at h3; subst h3; exact ⟨hk1, hk2, hk3, h2⟩
        case measure => simp [intOf]; omega
    ·have hok3 : 12 < x.hs.length ∨ (x.hs.length ≤ 12 ∧ 3000 < x.key.size) ∨ (x.hs.length ≤ 12 ∧ x.key.size ≤ 3000 ∧ 3000 < x.val.size) := by omega
     have HF := Lib.hid ((F0.out.tr F.out).tr hf1)
     clear hok
     rcases hok3 with hk1 | ⟨hk1, hk2⟩ | ⟨hk1, hk2, hk3⟩
     all_goals
      go_wp2_with fail
      go_ret
      exact ⟨false, rfl, by simp, HF.out⟩
   ·go_wp2_with fail
    go_ret
    obtain rfl : k = b.recs.length := by omega
    have h1 := HM.out
    have h2 := HOK.out
    rw [List.take_length] at h1 h2
    exact ⟨true, rfl, fun _ => ⟨hlen, h2, h1 ▸ hm3⟩, F0.out.tr F.out⟩
end Go.Proofs.YtfdhofabgdkkkaaGreatDoor
/- A request of any make: is it small; asked, and answered. -/
namespace Go.Proofs.YtfdhofabgdkkkaaGreatDoor
open Go.RowKit Go.Fm Go.BigFrame Go.Shelf Go.Maps
set_option linter.unusedVariables false
set_option linter.unusedSimpArgs false
set_option maxRecDepth 100000
section
variable {w w' : World} {S : Nat → Prop} {K K2 : Nat → Prop}
def AnyBool (w : World) (e : Ending) (w' : World) : Prop := (∃ b, e = .returned (.bool b)) ∧ Fr (fun _ => False) w w'
set_option maxHeartbeats 32000000 in
theorem rsmall_walk (q : Req) (ro : Option Addr) (rn rc : Nat) (kv : Value) (to : Option Addr) (tn tc : Nat) (ks : Fst) (hr : RecsR K w (.slice ro rn rc) q.bat.recs) (hk : KidR K2 w kv ks) (ho : ∀ i, K2 i → i < w.heap.size) :
  Calls Tryz.prog 17 #[.agg (reqC q (.slice ro rn rc) kv (.slice to tn tc))] w (AnyBool w) := by
 obtain ⟨ko, kc, rfl, -⟩ := id hk
 have f1 := (Fr.same w).alloc (.cells #[.int .i64 q.kind, .string q.name, .int .i64 q.index, .int .i64 q.count, .int .i64 q.from', .bool q.flag, .int .i64 q.bat.base, .int .i64 q.bat.span, .int .i64 q.bat.prod, .int .i64 q.bat.epoch, .int .i64 q.bat.seq, .slice ro rn rc, .int .i64 q.fop, .string q.fnm, .string q.fvl, .slice ko ks.len kc, .string q.group, .int .i64 q.member, .int .i64 q.gen, .slice to tn tc] 50)
 have X1 := Lib.hid (heap_alloc_self w (.cells #[.int .i64 q.kind, .string q.name, .int .i64 q.index, .int .i64 q.count, .int .i64 q.from', .bool q.flag, .int .i64 q.bat.base, .int .i64 q.bat.span, .int .i64 q.bat.prod, .int .i64 q.bat.epoch, .int .i64 q.bat.seq, .slice ro rn rc, .int .i64 q.fop, .string q.fnm, .string q.fvl, .slice ko ks.len kc, .string q.group, .int .i64 q.member, .int .i64 q.gen, .slice to tn tc] 50))
 have SM := Lib.hid (small_walk _ q.bat _ _ (hr.old f1))
 have F1 := Lib.hid f1
 have KW := Lib.hid hk
 unfold batV at SM
 unfold reqC
 clear f1 hr hk
 have dx := cell_of X1.out
 go_enter Tryz.func17, Tryz.ntmps17
 go_wp2_with fail
 generalize (w.alloc (.cells #[.int .i64 q.kind, .string q.name, .int .i64 q.index, .int .i64 q.count, .int .i64 q.from', .bool q.flag, .int .i64 q.bat.base, .int .i64 q.bat.span, .int .i64 q.bat.prod, .int .i64 q.bat.epoch, .int .i64 q.bat.seq, .slice ro rn rc, .int .i64 q.fop, .string q.fnm, .string q.fvl, .slice ko ks.len kc, .string q.group, .int .i64 q.member, .int .i64 q.gen, .slice to tn tc] 50)) = w1 at *
 refine SM.out.mono ?_
 rintro e w2 ⟨c, rfl, -, f2⟩
 have F2 := Lib.hid (F1.out.tr f2)
 have X2 := Lib.hid (blk X1.out f2 fun h => h)
 clear f2 SM dx X1 F1
 cases c with
 | false =>
  go_wp2_with fail
  go_ret
  exact ⟨⟨_, rfl⟩, F2.out⟩
 | true =>
  have RS := Lib.hid (rsize_top q.fop q.fnm q.fvl _ ks (KW.out.old F2.out) fun i hi => Nat.lt_of_lt_of_le (ho i hi) F2.out.size)
  unfold exV at RS
  have dx := cell_of X2.out
  go_wp2_with fail
  refine RS.out.mono ?_
  rintro e w3 ⟨rfl, f3⟩
  have F3 := Lib.hid (F2.out.tr f3)
  have X3 := Lib.hid (blk X2.out f3 fun h => h)
  have RD := Lib.hid (rdepth_top q.fop q.fnm q.fvl _ ks (KW.out.old F3.out) fun i hi => Nat.lt_of_lt_of_le (ho i hi) F3.out.size)
  unfold exV at RD
  clear f3 RS dx X2
  have dx := cell_of X3.out
  by_cases h40 : ((sizeK ks 1 100 100 : Nat) : Int) ≤ 40
  ·go_wp2_with fail
   refine RD.out.mono ?_
   rintro e w4 ⟨rfl, f4⟩
   have F4 := Lib.hid (F3.out.tr f4)
   have X4 := Lib.hid (blk X3.out f4 fun h => h)
   clear f4 RD dx X3
   have dx := cell_of X4.out
   go_wp2_with fail
   all_goals
    go_ret
    exact ⟨⟨_, rfl⟩, F4.out⟩
  ·have h41 : 40 < ((sizeK ks 1 100 100 : Nat) : Int) := by omega
   go_wp2_with fail
   go_ret
   exact ⟨⟨_, rfl⟩, F3.out⟩
end
end Go.Proofs.YtfdhofabgdkkkaaGreatDoor
/- Replies compared: that a machine that is none has refused. -/
namespace Go.Proofs.YtfdhofabgdkkkaaGreatDoor
open Go.RowKit Go.Fm Go.BigFrame Go.Shelf Go.Maps
set_option linter.unusedVariables false
set_option linter.unusedSimpArgs false
set_option maxRecDepth 100000
section
variable {w w' : World} {S : Nat → Prop}
end
end Go.Proofs.YtfdhofabgdkkkaaGreatDoor
