/- A cleaner is made: the walk. -/
import Derived.Test.YtdlnafhhkpklmaaGreatDoorY47
namespace Go.Proofs.YtdlnafhhkpklmaaGreatDoor
open Go.RowKit Go.Fm Go.BigFrame Go.Shelf Go.Maps
set_option linter.unusedVariables false
set_option linter.unusedSimpArgs false
set_option maxRecDepth 100000
section
variable {B : Nat} {w w' w1 w2 : World} {lb db mb : Nat} {p : ByteArray} {lim ev : Nat} {beg : Int} {es : List PE} {own : Bool} {L L' : List Row} {S S' : Nat → Prop} {room used fuse : Int} {F F' : ByteArray → ByteArray × Nat} {n : Nat} {ss : List Seg}
theorem BatssR.take {K : Nat → Prop} {oa : Option Addr} {m cap : Nat} {ls : List (List Bat)} (h : BatssR K w (.slice oa m cap) ls) {q : Nat} (hq : q ≤ ls.length) : BatssR K w (.slice oa q cap) (ls.take q) := by
 obtain ⟨oa', cap', hv, hc, h⟩ := h
 injection hv with e1 e2 e3
 subst e1 e3
 have hl : (ls.take q).length = q := by rw [List.length_take]; omega
 refine ⟨oa, cap, by rw [hl], by omega, fun k l hl => ?_⟩
 rw [List.getElem?_take] at hl
 split at hl
 ·exact h k l hl
 ·cases hl
def uptoF (ls : List (List Bat)) : Int := ls.foldl (fun a l => max a (endL l)) 0
theorem uptoF_snoc (ls : List (List Bat)) (l : List Bat) : uptoF (ls ++ [l]) = max (uptoF ls) (endL l) := by simp [uptoF]
theorem endL_small {l : List Bat} (h : ∀ b ∈ l, BatOK b) : 0 ≤ endL l ∧ endL l ≤ 1099511627826 := by
 unfold endL
 cases e : l.getLast? with
 | none => exact ⟨Int.le_refl _, by dsimp only; omega⟩
 | some b =>
  have hb := h b (List.mem_of_getLast? e)
  have := hb.base0
  have := hb.base1
  have := hb.span0
  have := hb.span1
  exact ⟨by dsimp only; omega, by dsimp only; omega⟩
theorem uptoF_small {ls : List (List Bat)} (h : ∀ l ∈ ls, ∀ b ∈ l, BatOK b) : ∀ k, 0 ≤ uptoF (ls.take k) ∧ uptoF (ls.take k) ≤ 1099511627826
 | 0 => by rw [List.take_zero]; exact ⟨Int.le_refl _, by show (0 : Int) ≤ _; omega⟩
 | k + 1 => by
  have ih := uptoF_small h k
  cases hk : ls[k]? with
  | none =>
   have h1 : ls.length ≤ k := by simpa using hk
   rw [List.take_of_length_le (by omega)]
   rw [List.take_of_length_le h1] at ih
   exact ih
  | some l =>
   rw [take_snoc' hk, uptoF_snoc]
   have := endL_small (h l (List.mem_of_getElem? hk))
   omega
def leftOf (m : List Bat) (ls : List (List Bat)) : List (List Bat) := ls.map fun l => m.filter (inR l)
def cleanedL (all : List Bat) (upto before : Int) : List Bat := cleanTo (keysTo all all.length) (ownersTo all all.length) upto before all all.length
/-- What New leaves of each segment but the last one. -/
def leftsL (ls : List (List Bat)) (all : List Bat) (before : Int) : List (List Bat) := if ls.length ≤ 1 then [] else leftOf (cleanedL all (uptoF (ls.take (ls.length - 1))) before) (ls.take (ls.length - 1))
def clObj (lb : Nat) (start next : Int) (v : Value) : Obj := .cells #[.pointer (some ⟨lb, 0, none⟩), .int .i64 start, .int .i64 next, v] 116 (0, 0)
structure ClA (w : World) (cb lb : Nat) (next : Int) (v : Value) (lf : List (List Bat)) : Prop where
 b : w.heap[cb]? = some (clObj lb 0 next v)
 r : BatssR (fun b => cb < b) w v lf
def NewPost (w : World) (lb : Nat) (lf : List (List Bat)) (e : Ending) (w' : World) : Prop :=
 ∃ cb v, e = .returned (.tuple #[.pointer (some ⟨cb, 0, none⟩), .int .i64 0]) ∧ ClA w' cb lb 0 v lf ∧ w.heap.size ≤ cb ∧ Fr (fun _ => False) w w'
theorem lists_mem {es : List PE} {l : List Bat} (h : l ∈ listsOf es) {b : Bat} (hb : b ∈ l) : b ∈ catE es := by
 unfold listsOf at h
 obtain ⟨e, he, rfl⟩ := List.mem_map.1 h
 unfold catE catL segsOf
 exact List.mem_flatMap.2 ⟨e.s, List.mem_map.2 ⟨e, he, rfl⟩, hb⟩
set_option maxHeartbeats 64000000 in
theorem cnew_walk (D0 : LogD B w lb db mb p lim ev 0 es own L S room used fuse F n) (hst : StepsOK w) (hg : GoodL (catE es)) (hes : es.length ≤ 9) (hne : ∀ l ∈ listsOf es, l ≠ []) (hsum : sumB (catE es) ≤ 1000000000) (before : Int) :
  Calls Tryz.prog 30 #[.pointer (some ⟨lb, 0, none⟩), .int .i64 before] w (NewPost w lb (leftsL (listsOf es) (catE es) before)) := by
 have D := Lib.hid D0
 have HST := Lib.hid hst
 have HG := Lib.hid hg
 have HSUM := Lib.hid hsum
 have hokA := D0.cat_ok
 obtain ⟨ls, hls⟩ : ∃ ls, ls = listsOf es := ⟨_, rfl⟩
 have hll : ls.length ≤ 9 := by rw [hls]; unfold listsOf; rw [List.length_map]; exact hes
 have hle9 : ∀ k, es.length ≤ k → ls.length ≤ k := fun k hk => by rw [hls]; unfold listsOf; rw [List.length_map]; exact hk
 have hokL : ∀ l ∈ ls, ∀ b ∈ l, BatOK b := fun l hl b hb => hokA b (lists_mem (by rw [← hls]; exact hl) hb)
 have hlenL : ∀ l ∈ ls, l.length ≤ 8 := fun l hl => by
  have h1 : ∀ b ∈ l, b ∈ catE es := fun b hb => lists_mem (by rw [← hls]; exact hl) hb
  rw [hls] at hl
  unfold listsOf at hl
  obtain ⟨e, he, rfl⟩ := List.mem_map.1 hl
  have h2 := cat_mem (ss := segsOf es) (s := e.s) (List.mem_map.2 ⟨e, he, rfl⟩)
  have h3 := hg.len
  unfold catE at h3
  omega
 have HLS := Lib.hid (And.intro hls hle9)
 have HOK := Lib.hid (And.intro hokL (And.intro hlenL hokA))
 have HNE := Lib.hid (show ∀ l ∈ ls, l ≠ [] by rw [hls]; exact hne)
 rw [← hls]
 clear hls hes hle9 hokL hlenL hokA D0 hst hg hne hsum
 go_enter Tryz.func30, Tryz.ntmps30
 go_wp2_with fail
 go_loopw [6, 7] (fun o i wr => ∃ (k : Nat) (M : List (List Bat)), i = .int .i64 k ∧ k ≤ ls.length ∧ M = ls.take k ∧ OwnBatss (fun b => w.heap.size ≤ b) w.heap.size wr o M ∧ Fr (fun _ => False) w wr) (fun _ i _ => ls.length + 1 - (intOf i).toNat)
 case atStart => exact ⟨0, [], rfl, Nat.zero_le _, rfl, OwnBatss.nil _ _ _, Fr.same _⟩
 case round =>
  obtain ⟨k, M, rfl, hk, hM, ho, hf⟩ := hrel
  have FF := Lib.hid hf
  have O := Lib.hid ho
  have HM := Lib.hid hM
  obtain ⟨ob, ocap, rfl, hocap⟩ := ho.slice
  clear hf ho hM
  have HS := Lib.hid (lseg_all (D.out.lg.old FF.out) k)
  go_wp2_with fail
  refine HS.out.mono ?_
  rintro e w2 hp
  rcases hp with ⟨l, hl, oa, cap, rfl, hb, hf2⟩ | ⟨hle, rfl, hf2⟩
  ·rw [← HLS.out.1] at hl
   have F2 := Lib.hid (FF.out.tr hf2)
   have hkl := (List.getElem?_eq_some_iff.1 hl).1
   have hsn := take_snoc' hl
   rw [← HM.out] at hsn
   have fa := (Fr.same w2).alloc (.cells #[.slice oa l.length cap] 22)
   have OWN := Lib.hid ((O.out.old hf2).old fa)
   have CA := Lib.hid (show (w2.alloc (.cells #[.slice oa l.length cap] 22)).cell? ⟨w2.heap.size, 0, none⟩ = some (.slice oa l.length cap) from cell_alloc_new w2 _ 22 0)
   have hlt' : ∀ x, (Value.slice ob M.length ocap).ownBlock = some x → x < wr.heap.size := fun x hx => (O.out.lt hx).2
   have hszF := FF.out.size
   have RR := Lib.hid ((hb.old fa).mono (K' := fun b => w.heap.size ≤ b ∧ (Value.slice ob M.length ocap).ownBlock ≠ some b) fun b h1 _ => ⟨Nat.le_trans hszF h1, fun e => by have := hlt' b e; have h2 : wr.heap.size ≤ b := h1; omega⟩)
   have FA := Lib.hid (F2.out.tr fa)
   have HSN := Lib.hid hsn
   have hlen : M.length < 1000000 := by rw [HM.out, List.length_take]; omega
   clear hl hb hf2 hsn fa hlt' HS hocap
   go_wp2_with (at_builtin; refine wpList_push_bats _ rfl (.tmp 35) (.tmp 37) rfl (fun b => w.heap.size ≤ b) w.heap.size (.slice ob M.length ocap) M rfl OWN.out w2.heap.size 1 rfl l (.slice oa l.length cap) CA.out RR.out hlen FA.out.size ?_)
   intro v6 w6 ho6 hg6 hb6
   have O6 := Lib.hid ho6
   have F6 := Lib.hid (FA.out.grown hg6 fun k hk => .inr (OWN.out.lt hk).1)
   clear ho6 hg6 hb6 OWN CA RR
   go_wp2_with fail
   go_roundw
   case rel => exact ⟨k + 1, M ++ [l], by go_num, hkl, HSN.out.symm, O6.out, F6.out⟩
   case measure => simp [intOf]; omega
  ·have F2 := Lib.hid (FF.out.tr hf2)
   have O2 := Lib.hid (O.out.old hf2)
   have hle2 := HLS.out.2 k hle
   obtain rfl : ls = M := by rw [HM.out]; exact (List.take_of_length_le hle2).symm
   clear hf2 HS hle hle2 HM
   have HST2 := Lib.hid (lstart_walk (D.out.lg.old F2.out))
   go_wp2_with fail
   refine HST2.out.mono ?_
   rintro e w3 ⟨rfl, hf3⟩
   have F3 := Lib.hid (F2.out.tr hf3)
   have R3 := Lib.hid ((O2.out.old hf3).reads (K' := fun b => w.heap.size ≤ b ∧ b < w3.heap.size) (fun b h hl => ⟨h, hl⟩) fun b h hl => ⟨h, hl⟩)
   have fal := (Fr.same w3).alloc (.cells #[.pointer (some ⟨lb, 0, none⟩), .int .i64 0, .int .i64 0, .slice none 0 0] 116)
   have XB := Lib.hid (heap_alloc_self w3 (.cells #[.pointer (some ⟨lb, 0, none⟩), .int .i64 0, .int .i64 0, .slice none 0 0] 116))
   have FB := Lib.hid (F3.out.tr fal)
   have RB := Lib.hid (R3.out.old fal)
   have SB := Lib.hid (show (w3.alloc (.cells #[.pointer (some ⟨lb, 0, none⟩), .int .i64 0, .int .i64 0, .slice none 0 0] 116)).heap.size = w3.heap.size + 1 by simp)
   have hs3 := F3.out.size
   clear hf3 HST2 fal O2 O FF
   by_cases hl1 : ls.length ≤ 1
   ·have hres : leftsL ls (catE es) before = [] := by unfold leftsL; rw [if_pos hl1]
    have HRES := Lib.hid hres
    clear hres
    go_wp2_with fail
    go_ret2
    refine ⟨w3.heap.size, .slice none 0 0, rfl, ⟨XB.out, ?_⟩, hs3, FB.out⟩
    rw [HRES.out]
    exact ⟨none, 0, rfl, Nat.le_refl _, fun k l hl => by cases hl⟩
   ·obtain ⟨m, hm⟩ : ∃ m, ls.length = m + 1 := ⟨ls.length - 1, by omega⟩
    have HM1 := Lib.hid hm
    have hm1 : 1 ≤ m := by omega
    have hm8 : m ≤ 8 := by omega
    have RT := Lib.hid (RB.out.take (q := m) (by omega))
    rw [hm] at hocap ⊢
    clear hl1 hm
    obtain ⟨ob2, cap2, e2, -, hel⟩ := RB.out
    injection e2 with e2 _ e4
    subst e2 e4
    have HEL := Lib.hid hel
    have HRT := Lib.hid RT.out
    clear hel RT
    go_wp2_with fail
    generalize (w3.alloc (.cells #[.pointer (some ⟨lb, 0, none⟩), .int .i64 0, .int .i64 0, .slice none 0 0] 116)) = Wb at *
    have hcbs := SB.out
    clear R3 F3
    generalize w3.heap.size = cb at *
    go_loopw [12, 54] (fun u i wr => ∃ k : Nat, i = .int .i64 k ∧ k ≤ m ∧ u = .int .i64 (uptoF (ls.take k)) ∧ Fr (fun _ => False) Wb wr) (fun _ i _ => m - (intOf i).toNat)
    case atStart => exact ⟨0, rfl, Nat.zero_le _, by rw [List.take_zero]; rfl, Fr.same _⟩
    case round =>
     obtain ⟨k, rfl, hkm, rfl, hf⟩ := hrel
     have F4 := Lib.hid hf
     clear hf
     rcases Nat.lt_or_ge k m with hlt | hge
     ·obtain ⟨l, hl⟩ := get_of_lt (show k < ls.length by have := HM1.out; omega)
      obtain ⟨a, bv, rfl, -, hcell, hbr⟩ := HEL.out k l hl
      have hc4 := F4.out.cel hcell
      have hb4 := hbr.old F4.out
      have hbb := hb4
      obtain ⟨la, lcap, rfl, -⟩ := hbb
      have hsm := uptoF_small HOK.out.1 k
      have hsl := endL_small (HOK.out.1 l (List.mem_of_getElem? hl))
      have HCE := Lib.hid (cend_walk l _ _ hb4 (HOK.out.1 l (List.mem_of_getElem? hl)) (by have := HOK.out.2.1 l (List.mem_of_getElem? hl); omega))
      have HSN := Lib.hid (show uptoF (ls.take (k + 1)) = max (uptoF (ls.take k)) (endL l) by rw [take_snoc' hl, uptoF_snoc])
      obtain ⟨U, hU⟩ : ∃ U, U = uptoF (ls.take k) := ⟨_, rfl⟩
      have HU := Lib.hid hU
      rw [← hU] at hsm ⊢
      clear hl hcell hbr hb4 hU
      go_wp2_with fail
      refine HCE.out.mono ?_
      rintro e w5 ⟨rfl, hf5⟩
      have F5 := Lib.hid (F4.out.tr hf5)
      clear hf5 HCE hc4
      go_wp2_with fail
      go_roundw
      case rel => exact ⟨k + 1, by go_num, hlt, by rw [HSN.out, HU.out], F5.out⟩
      case measure => simp [intOf]; omega
     ·obtain rfl : k = m := by omega
      have hsm := uptoF_small HOK.out.1 k
      obtain ⟨U, hU⟩ : ∃ U, U = uptoF (ls.take k) := ⟨_, rfl⟩
      have HU := Lib.hid hU
      rw [← hU]
      have HS4 := Lib.hid (lstart_walk (D.out.lg.old (FB.out.tr F4.out)))
      clear hkm hge hsm hU
      go_wp2_with fail
      refine HS4.out.mono ?_
      rintro e w5 ⟨rfl, hf5⟩
      have F5 := Lib.hid (F4.out.tr hf5)
      have HRD := Lib.hid (lread_walk (D.out.old (FB.out.tr F5.out)) (HST.out.old (FB.out.tr F5.out)) 0 1099511627776)
      clear hf5 HS4
      go_wp2_with fail
      refine HRD.out.mono ?_
      rintro e w6 hp
      have hpk : pick 0 1099511627776 (catE es) 0 [] = catE es := by
       rw [pick_all 0 1099511627776 (catE es) 0 [] (fun b hb => by have := (HOK.out.2.2 b hb).base0; have := (HOK.out.2.2 b hb).span0; omega) (by have := HSUM.out; omega), List.nil_append]
      have hp' : ∃ oa1 cap1, e = .returned (.tuple #[.slice oa1 (catE es).length cap1, .int .i64 0]) ∧ BatsR (fun b => w5.heap.size ≤ b) w6 (.slice oa1 (catE es).length cap1) (catE es) ∧ Fr (fun _ => False) w5 w6 := by
       rcases hp with ⟨h, -⟩ | ⟨-, -, v, rfl, hv, hcap, hf⟩
       ·exfalso
        have := D.out.be
        omega
       ·rw [hpk] at hv
        have hv2 := hv
        obtain ⟨oa1, cap1, rfl, -⟩ := hv2
        exact ⟨oa1, cap1, rfl, hv, hf⟩
      obtain ⟨oa1, cap1, rfl, hv6, hf6⟩ := hp'
      have F6 := Lib.hid (F5.out.tr hf6)
      have HCW := Lib.hid (clean_walk _ (catE es) U before _ w6 hv6 HG.out)
      have s6 := F6.out.size
      clear hp hpk hv6 hf6 HRD
      go_wp2_with fail
      refine HCW.out.mono ?_
      rintro e wc ⟨cv, rfl, hcv, hfc⟩
      obtain ⟨C, hC⟩ : ∃ C, C = cleanTo (keysTo (catE es) (catE es).length) (ownersTo (catE es) (catE es).length) U before (catE es) (catE es).length := ⟨_, rfl⟩
      rw [← hC] at hcv
      have hCok : ∀ b ∈ C, BatOK b := fun b hb => by
       rw [hC] at hb
       obtain ⟨i, x, hx, rfl⟩ := cleanTo_mem hb
       exact ok_sub (HOK.out.2.2 x (List.mem_of_getElem? hx)) (keptOf_sub i x)
      have hClen : C.length ≤ 8 := by
       rw [hC]
       exact Nat.le_trans (cleanTo_len _ _ _ _ _ _) HG.out.len
      have hres : leftsL ls (catE es) before = leftOf C (ls.take k) := by
       unfold leftsL cleanedL
       have hlm := HM1.out
       rw [if_neg (by omega), show ls.length - 1 = k by omega, ← HU.out, ← hC]
      have HC := Lib.hid (And.intro hCok hClen)
      have HRES := Lib.hid hres
      have FC := Lib.hid (F6.out.tr hfc)
      have CV := Lib.hid (hcv.mono (K' := fun b => cb < b ∧ b < wc.heap.size) fun b h hl => ⟨by have h1 : w6.heap.size ≤ b := h; omega, hl⟩)
      have XC := Lib.hid ((FC.out.block cb (by omega) fun h => h).trans XB.out)
      obtain ⟨ca, ccap, hcve⟩ : ∃ ca ccap, cv = .slice ca C.length ccap := by obtain ⟨a, c, h, -⟩ := hcv; exact ⟨a, c, h⟩
      subst hcve
      have sC := FC.out.size
      have HELC := Lib.hid (HRT.out.fr (S := fun _ => False) FC.out fun _ _ h => h)
      clear hcv hfc hC hCok hClen hres HCW s6
      go_wp2_with fail
      clear hm1 hocap
      go_loopw [78] (fun i wr => ∃ (j : Nat) (v : Value), i = .int .i64 j ∧ j ≤ k ∧ wr.heap[cb]? = some (clObj lb 0 0 v) ∧ OwnBatss (fun b => cb < b) wc.heap.size wr v (leftOf C (ls.take j)) ∧ Fr (fun i => i = cb) wc wr) (fun i _ => k - (intOf i).toNat)
      case atStart => exact ⟨0, .slice none 0 0, rfl, Nat.zero_le _, XC.out, by rw [List.take_zero]; exact OwnBatss.nil _ _ _, Fr.refl _ _⟩
      case round =>
       obtain ⟨wj, rfl⟩ : ∃ wj, wj = wr := ⟨_, rfl⟩
       obtain ⟨j, v, rfl, hj, hx, ho, hf⟩ := hrel
       have X := Lib.hid hx
       have OV := Lib.hid ho
       have FJ := Lib.hid hf
       have sJ := hf.size
       obtain ⟨ov, vcap, hvv, -⟩ := ho.slice
       subst hvv
       clear hx ho hf
       rcases Nat.lt_or_ge j k with hlt | hge
       ·obtain ⟨l, hl⟩ := get_of_lt (show j < ls.length by have := HM1.out; omega)
        obtain ⟨a, bv, rfl, hak, hcell, hbr⟩ := HEL.out j l hl
        have hnb : ∀ i, (w.heap.size ≤ i ∧ i < cb) → ¬ i = cb := fun i h => by omega
        have hcj := FJ.out.cell (FC.out.cel hcell) (by rw [add_block]; exact hnb _ hak)
        have hbj := (hbr.old FC.out).fr FJ.out fun i hi => hnb i hi
        have hll2 := HNE.out l (List.mem_of_getElem? hl)
        have hlok := HOK.out.1 l (List.mem_of_getElem? hl)
        have hl8 := HOK.out.2.1 l (List.mem_of_getElem? hl)
        have hsnj : leftOf C (ls.take (j + 1)) = leftOf C (ls.take j) ++ [C.filter (inR l)] := by rw [take_snoc' hl]; unfold leftOf; rw [List.map_append]; rfl
        have HSNJ := Lib.hid hsnj
        have hlenj : (leftOf C (ls.take j)).length ≤ 9 := by unfold leftOf; rw [List.length_map, List.length_take]; omega
        have CVJ := CV.out.fr FJ.out fun i (hi : cb < i ∧ i < wc.heap.size) (e : i = cb) => by omega
        obtain ⟨ca2, ccap2, e5, hce⟩ := CVJ
        injection e5 with e5 _ e6
        subst e5 e6
        have HCE := Lib.hid hce
        have HLOK := Lib.hid hlok
        have HBJ := Lib.hid hbj
        have HRLE := Lib.hid hcell
        clear hcell hbr hlok hce hsnj
        cases l with
        | nil => exact absurd rfl hll2
        | cons s0 sl =>
         have hbb := hbj
         obtain ⟨la, lcap, rfl, hlk⟩ := hbb
         obtain ⟨A0, rv0, rfl, -, hc0, -⟩ := hlk 0 s0 rfl
         have ha00 : A0.add (0 * 6) = A0 := by simp [Addr.add]
         rw [ha00] at hc0
         have HC0 := Lib.hid hc0
         have HLN := Lib.hid (show (s0 :: sl).length ≤ 8 from hl8)
         obtain ⟨q, hq⟩ : ∃ q, (s0 :: sl).length = q + 1 := ⟨sl.length, rfl⟩
         have HQ := Lib.hid hq
         rw [hq] at hcj
         clear hlk hbj hc0 hll2 hl hl8 hq ha00 hnb
         go_wp2_with fail
         go_loopw [20, 84] (fun o i wr => ∃ (t : Nat) (M : List Bat), i = .int .i64 t ∧ t ≤ C.length ∧ M = (C.take t).filter (inR (s0 :: sl)) ∧ OwnBats (fun b => cb < b ∧ b < wc.heap.size) wj.heap.size wr o M ∧ Fr (fun _ => False) wj wr) (fun _ i _ => C.length - (intOf i).toNat)
         case atStart => exact ⟨0, [], rfl, Nat.zero_le _, rfl, OwnBats.nil _ _ _, Fr.same _⟩
         case round =>
          obtain ⟨t, M, rfl, htC, hM, ho, hf⟩ := hrel
          have FQ := Lib.hid hf
          have O := Lib.hid ho
          have HMM := Lib.hid hM
          obtain ⟨oo, oocap, rfl⟩ := ho.slice
          clear hf ho hM
          rcases Nat.lt_or_ge t C.length with htlt | htge
          ·obtain ⟨x, hxx⟩ := get_of_lt htlt
           have hC8 := HC.out.2
           obtain ⟨A, rv, rfl, hA, hc, hr⟩ := HCE.out t x hxx
           have hxok := HC.out.1 x (List.mem_of_getElem? hxx)
           obtain ⟨c0, c1, c2, c3, c4, c5⟩ := hc.to (FQ.out.block _ hc.lt fun h => h)
           have hr1 := hr.old FQ.out
           have hh := hr1
           obtain ⟨ra, rcap, rfl, -⟩ := hh
           have hsn : (C.take (t + 1)).filter (inR (s0 :: sl)) = M ++ (if inR (s0 :: sl) x = true then [x] else []) := by
            rw [take_snoc' hxx, List.filter_append, ← HMM.out]
            congr 1
            cases hi : inR (s0 :: sl) x <;> simp [hi]
           have HSN := Lib.hid hsn
           have fal := (Fr.same wr).alloc (.cells #[.int .i64 x.base, .int .i64 x.span, .int .i64 x.prod, .int .i64 x.epoch, .int .i64 x.seq, .slice ra x.recs.length rcap] 36)
           have hxa := heap_alloc_self wr (.cells #[.int .i64 x.base, .int .i64 x.span, .int .i64 x.prod, .int .i64 x.epoch, .int .i64 x.seq, .slice ra x.recs.length rcap] 36)
           have g0 := fal.cel (FQ.out.cel HC0.out.c0)
           have zx : ∀ y : Lcl.InS (fun w' => Fr (fun _ => False) (wr.alloc (.cells #[.int .i64 x.base, .int .i64 x.span, .int .i64 x.prod, .int .i64 x.epoch, .int .i64 x.seq, .slice ra x.recs.length rcap] 36)) w'), y.w.cell? ⟨wr.heap.size, 0, none⟩ = some (.int .i64 x.base) := fun y => y.h.cel (cell_alloc_new wr _ 36 0)
           have z0 : ∀ y : Lcl.InS (fun w' => Fr (fun _ => False) (wr.alloc (.cells #[.int .i64 x.base, .int .i64 x.span, .int .i64 x.prod, .int .i64 x.epoch, .int .i64 x.seq, .slice ra x.recs.length rcap] 36)) w'), y.w.cell? A0 = some (.int .i64 s0.base) := fun y => y.h.cel g0
           have hbw := ((HBJ.out.old FQ.out).old fal)
           rw [HQ.out] at hbw
           have HBW := Lib.hid hbw
           have FAL := Lib.hid fal
           have XAL := Lib.hid hxa
           have HR := Lib.hid (hr1.old fal)
           clear hxx hc hr hr1 hsn fal hxa g0 hbw hxok
           go_wp2_with fail
           generalize (wr.alloc (.cells #[.int .i64 x.base, .int .i64 x.span, .int .i64 x.prod, .int .i64 x.epoch, .int .i64 x.seq, .slice ra x.recs.length rcap] 36)) = W1 at *
           clear c0 c1 c2 c3 c4 c5
           by_cases h1 : s0.base ≤ x.base
           ·skip
            refine Lcl.wp_region_calm (by kernel_rfl) [(true, [0, 1, 2, 3, 4, 6, 7, 8]), (false, [5, 9]), (true, [10, 11, 12, 13, 15]), (false, [14])] #[0, 1, 3, 7, 15, 31, 15, 79, 207, 463, 1023, 2047, 4095, 8191, 16383, 8191, 40959, 131071, 262143] [0, 1, 2, 3, 4, 5, 6, 7, 8, 9, 10, 11, 12, 13, 14, 15, 16] 3 #[true, true, true, true, true, true, true, true, true, true, true, true, true, true, true, true, false, false, false] (by kernel_rfl) (by kernel_rfl) (by kernel_rfl) (fun w' => Fr (fun _ => False) W1 w') (Fr.same W1).drew (fun d c a v w h => by cases d <;> exact h) ?_
            simp only [Lcl.opsOf, List.map_cons, List.map_nil, List.getElem?_toArray, List.getElem?_cons_succ, List.getElem?_cons_zero, Option.getD_some]
            refine Lcl.wpCalm_t ?_
            repeat (go_big_quiet_step (rfl))
            refine wpQuiet_nil ?_
            refine Lcl.wpCalm_f ?_
            repeat (go_big_quiet_step (rfl))
            refine wpQuiet_nil ?_
            refine Lcl.wpCalm_t ?_
            repeat (go_big_quiet_step (rfl))
            refine wpQuiet_nil ?_
            refine Lcl.wpCalm_f ?_
            repeat (go_big_quiet_step (rfl))
            refine wpQuiet_nil ?_
            refine Lcl.wpCalm_nil ?_
            clear zx z0
            have hce := cend_walk (s0 :: sl) (.slice (some A0) (q + 1) lcap) W1.drew (HBW.out.old (Fr.same W1).drew) HLOK.out (by have := HLN.out; omega)
            obtain ⟨E, hE⟩ : ∃ E, E = endL (s0 :: sl) := ⟨_, rfl⟩
            have HEE := Lib.hid hE
            rw [← hE] at hce
            have HCEN := Lib.hid hce
            clear hce hE
            refine Lcl.wpG_one 16 rfl (by kernel_rfl) ?_
            go_wp2_with fail
            refine HCEN.out.mono ?_
            rintro e w7 ⟨rfl, hf7⟩
            have FALN := Lib.hid (FAL.out.drew.tr hf7)
            have F17 := Lib.hid ((Fr.same W1).drew.tr hf7)
            clear hf7 HCEN
            go_wp2_with fail
            refine ⟨fun _ _ => F17.out, ?_⟩
            refine Lcl.wpG_run [17, 18] _ _ _ (by kernel_rfl) ?_
            simp only [List.map_cons, List.map_nil, List.getElem?_toArray, List.getElem?_cons_succ, List.getElem?_cons_zero, Option.getD_some]
            by_cases h2 : x.base < E
            ·have hsn : (C.take (t + 1)).filter (inR (s0 :: sl)) = M ++ [x] := by rw [HSN.out, if_pos (by rw [inR_iff]; have := HEE.out; omega)]
             have HSN2 := Lib.hid hsn.symm
             have X7 := (F17.out.block _ (lt_of_heap XAL.out) fun h => h).trans XAL.out
             have d0 : w7.cell? ⟨wr.heap.size, 0, none⟩ = some (.int .i64 x.base) := (cell_of X7 0).trans rfl
             have d1 : w7.cell? ⟨wr.heap.size, 1, none⟩ = some (.int .i64 x.span) := (cell_of X7 1).trans rfl
             have d2 : w7.cell? ⟨wr.heap.size, 2, none⟩ = some (.int .i64 x.prod) := (cell_of X7 2).trans rfl
             have d3 : w7.cell? ⟨wr.heap.size, 3, none⟩ = some (.int .i64 x.epoch) := (cell_of X7 3).trans rfl
             have d4 : w7.cell? ⟨wr.heap.size, 4, none⟩ = some (.int .i64 x.seq) := (cell_of X7 4).trans rfl
             have d5 : w7.cell? ⟨wr.heap.size, 5, none⟩ = some (.slice ra x.recs.length rcap) := (cell_of X7 5).trans rfl
             have fa := (Fr.same w7).alloc (.cells (batCells x (.slice ra x.recs.length rcap)).toArray 36)
             have OWN := Lib.hid ((O.out.old FALN.out).old fa)
             have CA := Lib.hid (fun j => cell_alloc_new w7 (batCells x (.slice ra x.recs.length rcap)).toArray 36 j)
             have sQ := FQ.out.size
             have RR := Lib.hid (((HR.out.old F17.out).old fa).mono (K' := fun z => (cb < z ∧ z < wc.heap.size) ∧ (Value.slice oo M.length oocap).ownBlock ≠ some z) fun z hz _ => ⟨hz, fun e => by have := (O.out.lt e).1; have h3 : cb < z ∧ z < wc.heap.size := hz; omega⟩)
             have FA := Lib.hid ((FQ.out.tr FALN.out).tr fa)
             have hlen : M.length < 1000000 := by
              rw [HMM.out]
              have := List.length_filter_le (inR (s0 :: sl)) (C.take t)
              rw [List.length_take] at this
              omega
             unfold batCells at OWN CA RR FA
             clear hsn X7 fa
             go_wp2_with (at_builtin; refine wpList_push_bat _ rfl (.tmp 107) (.tmp 109) rfl (fun b => cb < b ∧ b < wc.heap.size) wj.heap.size (.slice oo M.length oocap) M rfl OWN.out w7.heap.size 1 rfl x (.slice ra x.recs.length rcap) CA.out RR.out rfl hlen FA.out.size ?_)
             intro v8 w8 ho8 hg8 hb8
             have O8 := Lib.hid ho8
             have F8 := Lib.hid (FA.out.grown hg8 fun k hk => .inr (OWN.out.lt hk).1)
             clear ho8 hg8 hb8 OWN CA RR d0 d1 d2 d3 d4 d5
             go_wp2_with fail
             go_roundw
             case rel => exact ⟨t + 1, M ++ [x], by go_num, htlt, HSN2.out, O8.out, F8.out⟩
             case measure => simp [intOf]; omega
            ·have hee := HEE.out
             have hsn : (C.take (t + 1)).filter (inR (s0 :: sl)) = M := by rw [HSN.out, if_neg (by rw [inR_iff]; rw [← hee]; omega), List.append_nil]
             have HSN2 := Lib.hid hsn.symm
             have OD := Lib.hid (O.out.old FALN.out)
             have FD := Lib.hid (FQ.out.tr FALN.out)
             clear hsn hee
             go_wp2_with fail
             go_roundw
             case rel => exact ⟨t + 1, M, by go_num, htlt, HSN2.out, OD.out, FD.out⟩
             case measure => simp [intOf]; omega
           ·skip
            refine Lcl.wp_region_calm (by kernel_rfl) [(true, [0, 1, 2, 3, 4, 6, 7, 8]), (false, [5, 9]), (true, [10, 11, 12, 13, 15]), (false, [14])] #[0, 1, 3, 7, 15, 31, 15, 79, 207, 463, 1023, 2047, 4095, 8191, 16383, 8191, 40959, 131071, 262143] [0, 1, 2, 3, 4, 5, 6, 7, 8, 9, 10, 11, 12, 13, 14, 15, 16] 3 #[true, true, true, true, true, true, true, true, true, true, true, true, true, true, true, true, false, false, false] (by kernel_rfl) (by kernel_rfl) (by kernel_rfl) (fun w' => Fr (fun _ => False) W1 w') (Fr.same W1).drew (fun d c a v w h => by cases d <;> exact h) ?_
            simp only [Lcl.opsOf, List.map_cons, List.map_nil, List.getElem?_toArray, List.getElem?_cons_succ, List.getElem?_cons_zero, Option.getD_some]
            refine Lcl.wpCalm_t ?_
            repeat (go_big_quiet_step (rfl))
            refine wpQuiet_nil ?_
            refine Lcl.wpCalm_f ?_
            repeat (go_big_quiet_step (rfl))
            refine wpQuiet_nil ?_
            refine Lcl.wpCalm_t ?_
            repeat (go_big_quiet_step (rfl))
            refine wpQuiet_nil ?_
            refine Lcl.wpCalm_f ?_
            repeat (go_big_quiet_step (rfl))
            refine wpQuiet_nil ?_
            refine Lcl.wpCalm_nil ?_
            clear zx z0
            refine Lcl.wpG_one 16 rfl (by kernel_rfl) ?_
            refine wpList_skip (by first | rfl | simp [Region.wanted, yielded, h1]) ?_
            refine (show _ ∧ _ from ⟨fun _ _ => (Fr.same W1).drew, ?_⟩)
            refine Lcl.wpG_run [17, 18] _ _ _ (by kernel_rfl) ?_
            simp only [List.map_cons, List.map_nil, List.getElem?_toArray, List.getElem?_cons_succ, List.getElem?_cons_zero, Option.getD_some]
            have FALN := Lib.hid (FAL.out.drew)
            have hsn : (C.take (t + 1)).filter (inR (s0 :: sl)) = M := by rw [HSN.out, if_neg (by rw [inR_iff]; omega), List.append_nil]
            have HSN2 := Lib.hid hsn.symm
            have OD := Lib.hid (O.out.old FALN.out)
            have FD := Lib.hid (FQ.out.tr FALN.out)
            clear hsn
            go_wp2_with fail
            go_roundw
            case rel => exact ⟨t + 1, M, by go_num, htlt, HSN2.out, OD.out, FD.out⟩
            case measure => simp [intOf]; omega
          ·obtain rfl : t = C.length := by omega
           have htk : M = C.filter (inR (s0 :: sl)) := by rw [HMM.out, List.take_length]
           have HTK := Lib.hid htk
           have sQ := FQ.out.size
           have XQ := (FQ.out.block cb (by have := lt_of_heap X.out; omega) fun h => h).trans X.out
           have fa := (Fr.same wr).alloc (.cells #[.slice oo M.length oocap] 22)
           have hvlt : ∀ z, (Value.slice ov (leftOf C (ls.take j)).length vcap).ownBlock = some z → wc.heap.size ≤ z ∧ z < wj.heap.size := fun z hz => OV.out.lt hz
           have OWN := Lib.hid ((OV.out.old FQ.out).old fa)
           have CA := Lib.hid (show (wr.alloc (.cells #[.slice oo M.length oocap] 22)).cell? ⟨wr.heap.size, 0, none⟩ = some (.slice oo M.length oocap) from cell_alloc_new wr _ 22 0)
           have RR := Lib.hid ((O.out.reads (K' := fun b => cb < b ∧ (Value.slice ov (leftOf C (ls.take j)).length vcap).ownBlock ≠ some b) (fun b h _ => ⟨by have := lt_of_heap X.out; omega, fun e => by have := hvlt b e; omega⟩) fun b (h : cb < b ∧ b < wc.heap.size) _ => ⟨h.1, fun e => by have := hvlt b e; omega⟩).old fa)
           have FA := Lib.hid (FQ.out.tr fa)
           have XA := Lib.hid ((fa.block cb (lt_of_heap XQ) fun h => h).trans XQ)
           have k3 : wr.cell? ⟨cb, 3, none⟩ = some (.slice ov (leftOf C (ls.take j)).length vcap) := (cell_of XQ 3).trans rfl
           have HVL := Lib.hid hvlt
           have hXlt := lt_of_heap X.out
           clear htk fa XQ hvlt HMM
           obtain ⟨LF, hLF⟩ : ∃ LF, LF = leftOf C (ls.take j) := ⟨_, rfl⟩
           have HLF := Lib.hid hLF
           rw [← hLF] at OWN RR k3 HVL hlenj XA
           clear hLF
           go_wp2_with (at_builtin; refine wpList_push_bats _ rfl (.tmp 116) (.tmp 118) rfl (fun b => cb < b) wc.heap.size (.slice ov LF.length vcap) LF rfl OWN.out wr.heap.size 1 rfl M (.slice oo M.length oocap) CA.out RR.out (by omega) (by have := FA.out.size; omega) ?_)
           intro v8 w8 ho8 hg8 hb8
           have hfg : Fr (fun i => (Value.slice ov LF.length vcap).ownBlock = some i) (wr.alloc (.cells #[.slice oo M.length oocap] 22)) w8 := Fr.grown (Fr.refl _ _) hg8 fun x e => .inl e
           have X8 := Lib.hid ((hfg.block cb (lt_of_heap XA.out) fun e => by have := HVL.out cb e; omega).trans XA.out)
           have F8 := Lib.hid (show Fr (fun i => i = cb) wc w8 from (FJ.out.trans FA.out fun i h => h.elim).trans hfg fun i e => .inr (HVL.out i e).1)
           obtain ⟨o8, c8, hv8, -⟩ := ho8.slice
           have O8 := Lib.hid ho8
           have fz := fz_of X8.out 3
           have k8 : w8.cell? ⟨cb, 3, none⟩ = some (.slice ov LF.length vcap) := (cell_of X8.out 3).trans rfl
           have hfs : Fr (fun i => i = cb) w8 (w8.setCell ⟨cb, 3, none⟩ v8) := Fr.setCell (S := fun i => i = cb) (p := ⟨cb, 3, none⟩) (Fr.refl _ w8) (.inl rfl) _
           have X9 := Lib.hid (show (w8.setCell ⟨cb, 3, none⟩ v8).heap[cb]? = some (clObj lb 0 0 v8) by rw [heap_setCell_self X8.out]; rfl)
           have O9 := Lib.hid (O8.out.fr hfs (fun i (hi : cb < i) (e : i = cb) => by omega) fun i hi (e : i = cb) => by have := (O8.out.lt hi).1; omega)
           have F9 := Lib.hid (F8.out.trans hfs fun i h => .inl h)
           have HNX := Lib.hid (show LF ++ [M] = leftOf C (ls.take (j + 1)) by rw [HSNJ.out, HLF.out, HTK.out])
           have hln : (LF ++ [M]).length = LF.length + 1 := by simp
           rw [hln] at hv8
           clear ho8 hg8 hb8 hfg hfs OWN CA RR k3 hln
           subst hv8
           go_wp2_with fail
           go_roundw
           case rel => exact ⟨j + 1, _, by go_num, hlt, X9.out, by rw [← HNX.out]; exact O9.out, F9.out⟩
           case measure => simp [intOf]; omega
       ·obtain rfl : j = k := by omega
        go_wp2_with fail
        go_ret2
        refine ⟨cb, _, rfl, ⟨X.out, ?_⟩, hs3, (FB.out.tr FC.out).trans FJ.out fun i e => .inr (by have e2 : i = cb := e; omega)⟩
        rw [HRES.out]
        exact OV.out.reads (fun b h _ => by omega) fun b h _ => h
end
end Go.Proofs.YtdlnafhhkpklmaaGreatDoor
