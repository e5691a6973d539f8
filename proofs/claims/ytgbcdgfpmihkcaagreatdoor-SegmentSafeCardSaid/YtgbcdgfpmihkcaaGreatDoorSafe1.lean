/- SegmentSafe: the walk. -/
import Derived.Test.YtgbcdgfpmihkcaaGreatDoorAgain1
namespace Go.Proofs.YtgbcdgfpmihkcaaGreatDoor
open Go.RowKit Go.Fm Go.BigFrame Go.Shelf Go.Maps
set_option linter.unusedVariables false
set_option linter.unusedSimpArgs false
set_option maxRecDepth 100000

theorem OwnBats.mono {K K' : Nat → Prop} {B : Nat} {w : World} {v : Value} {bs : List Bat} (h : OwnBats K B w v bs) (hK : ∀ b, K b → b < w.heap.size → K' b) : OwnBats K' B w v bs := by
  obtain ⟨zs, h1, h2, h3⟩ := h
  exact ⟨zs, h1, h2, fun z hz => (h3 z hz).mono fun b hb hl => ⟨hK b hb.1 hl, hb.2⟩⟩
theorem bats_take {K : Nat → Prop} {w : World} {oa : Option Addr} {n cap : Nat} {l : List Bat} (h : BatsR K w (.slice oa n cap) l) {q : Nat} (hq : q ≤ l.length) : BatsR K w (.slice oa q cap) (l.take q) := by
  obtain ⟨oa', cap', hv, h⟩ := h
  injection hv with e1 e2 e3
  subst e1 e3
  refine ⟨oa, cap, by rw [List.length_take]; congr 1; omega, fun k b hb => ?_⟩
  rw [List.getElem?_take] at hb
  split at hb
  · exact h k b hb
  · cases hb
theorem own_cap {K : Nat → Prop} {B : Nat} {w : World} {oa : Option Addr} {n cap : Nat} {l : List Bat} (h : OwnBats K B w (.slice oa n cap) l) : n ≤ cap := by
  obtain ⟨zs, -, h, -⟩ := h
  rcases h.2 with ⟨e1, e2⟩ | ⟨g, cap', cur, e1, -, -, hle, -⟩
  · injection e1 with _ e1 e2; omega
  · injection e1 with _ e1 e2; omega
/-- Batches that the call has gathered; they lie apart from a segment and its disk. -/
def AllR (w wr : World) (o : Value) (lst : List Bat) (db mb : Nat) (L : List Row) (S : Nat → Prop) : Prop :=
  ∃ KA : Nat → Prop, OwnBats KA w.heap.size wr o lst ∧ (∀ x, KA x → x < wr.heap.size ∧ ¬ S x ∧ ¬ DkS db mb L x) ∧ ∀ x, o.ownBlock = some x → ¬ S x ∧ ¬ DkS db mb L x
section
variable {w wr w' : World} {o : Value} {lst : List Bat} {db mb : Nat} {L L' : List Row} {S S' : Nat → Prop}
theorem AllR.nil (w wr : World) (db mb : Nat) (L : List Row) (S : Nat → Prop) : AllR w wr (.slice none 0 0) [] db mb L S :=
  ⟨fun _ => False, OwnBats.nil _ _ _, fun x h => h.elim, fun x h => by simp [Value.ownBlock] at h⟩
theorem AllR.old (h : AllR w wr o lst db mb L S) (hf : Fr (fun _ => False) wr w') : AllR w w' o lst db mb L S := by
  obtain ⟨KA, h1, h2, h3⟩ := h
  exact ⟨KA, h1.old hf, fun x hx => ⟨Nat.lt_of_lt_of_le (h2 x hx).1 hf.size, (h2 x hx).2⟩, h3⟩
theorem AllR.step (h : AllR w wr o lst db mb L S) (hf : Fr (fun i => S i ∨ DkS db mb L i) wr w') (hS : ∀ i, S' i → S i ∨ wr.heap.size ≤ i) (hD : ∀ i, DkS db mb L' i → DkS db mb L i ∨ wr.heap.size ≤ i) : AllR w w' o lst db mb L' S' := by
  obtain ⟨KA, h1, h2, h3⟩ := h
  refine ⟨KA, h1.fr hf (fun k hk h => h.elim (h2 k hk).2.1 (h2 k hk).2.2) fun k hk h => h.elim (h3 k hk).1 (h3 k hk).2, fun x hx => ⟨Nat.lt_of_lt_of_le (h2 x hx).1 hf.size, fun h => ?_, fun h => ?_⟩, fun x hx => ⟨fun h => ?_, fun h => ?_⟩⟩
  · rcases hS x h with h | h
    · exact (h2 x hx).2.1 h
    · have := (h2 x hx).1; omega
  · rcases hD x h with h | h
    · exact (h2 x hx).2.2 h
    · have := (h2 x hx).1; omega
  · rcases hS x h with h | h
    · exact (h3 x hx).1 h
    · have := (h1.lt hx).2; omega
  · rcases hD x h with h | h
    · exact (h3 x hx).2 h
    · have := (h1.lt hx).2; omega
end
/-- Between two batches of the argument. -/
structure SfMid (w wr : World) (sb db mb : Nat) (k : Nat) (lst : List Bat) (o : Value) (y : Nat) (L : List Row) (S : Nat → Prop) : Prop where
  sd : SD w wr sb db mb aS ⟨0, 50, lst⟩ 100000 (catB lst) (sumB (lst.take y)) (-1) L S
  len : lst.length ≤ k
  yl : y ≤ lst.length
  all : AllR w wr o lst db mb L S
set_option maxHeartbeats 32000000 in
theorem safe_walk (l : List Bat) (v : Value) (safe keep : Int) (w : World) (hl : BatsR (fun _ => True) w v l) (hst : StepsOK w) (hw0 : 1 ≤ w.heap.size) :
    Calls Tryz.prog 3 #[v, .int .i64 safe, .int .i64 keep] w fun e w' => e = .returned (.bool true) ∧ Fr (fun _ => False) w w' := by
  obtain ⟨oa, cap, rfl, hl⟩ := hl
  have HL := Lib.hid hl
  have HST := Lib.hid hst
  have a1 : 1 ≤ aS.size := by decide
  have a2 : aS.size ≤ 40 := by decide
  clear hl hst
  by_cases hbad : 8 < l.length
  · go_enter Tryz.func3, Tryz.ntmps3
    go_wp2_with fail
    refine (live_walk w HST.out hw0).mono ?_
    rintro e w4 ⟨rfl, hf4⟩
    have F4 := Lib.hid hf4
    clear hf4
    go_wp2_with fail
    go_ret
    exact ⟨rfl, F4.out⟩
  · have hlen : l.length ≤ 8 := by omega
    clear hbad
    go_enter Tryz.func3, Tryz.ntmps3
    go_wp2_with fail
    refine (dnew1 100000 w (by omega) (by omega) aS).mono ?_
    rintro e w1 ⟨db, mb, rfl, hd1, hf1⟩
    have D1 := Lib.hid hd1
    have F1 := Lib.hid hf1
    clear hd1 hf1
    go_wp2_with fail
    refine (open1 D1.out F1.out (by omega) a1 a2 0 50 (by omega) (by omega) (by omega) [] 0 (scan_empty _) HST.out (by simp) hw0).mono ?_
    rintro e w2 ⟨sb, S2, f, rfl, hs2, -, hff, -⟩
    have hf : f = -1 := hff (by simp)
    subst hf
    have hm2 : SfMid w w2 sb db mb 0 [] (.slice none 0 0) 0 [] S2 := by
      have : ByteArray.empty.extract 0 0 = ByteArray.empty := bytes_ext (by simp)
      rw [this] at hs2
      exact ⟨hs2, Nat.zero_le _, Nat.zero_le _, AllR.nil _ _ _ _ _ _⟩
    have M2 := Lib.hid hm2
    clear hs2 hff D1 F1 hm2
    go_wp2_with fail
    go_loopw [11, 12, 13] (fun o y0 i wr => ∃ (k : Nat) (lst : List Bat) (L : List Row) (S : Nat → Prop) (y : Nat), i = .int .i64 k ∧ y0 = .int .i64 y ∧ k ≤ l.length ∧ SfMid w wr sb db mb k lst o y L S) (fun _ _ i _ => l.length - (intOf i).toNat)
    case atStart => exact ⟨0, [], [], S2, 0, rfl, rfl, Nat.zero_le _, M2.out⟩
    case round =>
      obtain ⟨k, lst, L, S, y, rfl, rfl, hk, hm⟩ := hrel
      clear M2
      have M := Lib.hid hm
      have hln := hm.len
      have hyl := hm.yl
      obtain ⟨ob, ocap, hob⟩ : ∃ a c, _ = Value.slice a lst.length c := by obtain ⟨KA, h1, -⟩ := hm.all; exact h1.slice
      subst hob
      clear hm
      rcases Nat.lt_or_ge k l.length with hlt | hge
      · obtain ⟨b, hb⟩ := get_of_lt hlt
        obtain ⟨A, rv, rfl, -, hc, hr⟩ := HL.out k b hb
        have hc1 := hc.to (M.out.sd.fr.block _ hc.lt fun h => h)
        have hr1 := hr.old M.out.sd.fr
        have hh := hr1
        obtain ⟨ra, rcap, rfl, -⟩ := hh
        have HC1 := Lib.hid hc1
        have HR1 := Lib.hid hr1
        have HB := Lib.hid hb
        obtain ⟨c0, c1, c2, c3, c4, c5⟩ := hc1
        have HOB := Lib.hid (show ∀ x, (Value.slice ob lst.length ocap).ownBlock = some x → x < wr.heap.size from fun x hx => by obtain ⟨KA, h1, -⟩ := M.out.all; exact (h1.lt hx).2)
        have HSM := Lib.hid (small_walk _ b _ _ hr1)
        clear hb hc hr hr1
        unfold batV at HSM
        go_wp2_with fail
        refine HSM.out.mono ?_
        rintro e w3 ⟨c, rfl, hsm, hf3⟩
        have SD3 := Lib.hid (M.out.sd.old hf3)
        have AL3 := Lib.hid (M.out.all.old hf3)
        have HW3 := Lib.hid hf3.size
        have HC3 := Lib.hid (HC1.out.to (hf3.block _ HC1.out.lt fun h => h))
        have HR3 := Lib.hid (HR1.out.old hf3)
        clear hf3 HSM c0 c1 c2 c3 c4 c5 HC1 HR1
        cases c with
        | false =>
          clear hsm
          go_wp2_with fail
          refine (live_walk _ (HST.out.old SD3.out.fr) (Nat.le_trans hw0 SD3.out.fr.size)).mono ?_
          rintro e w4 ⟨rfl, hf4⟩
          have F4 := Lib.hid (SD3.out.fr.tr hf4)
          clear hf4
          go_wp2_with fail
          go_ret
          exact ⟨rfl, F4.out⟩
        | true =>
          obtain ⟨hf1, hf2⟩ := small_few (hsm rfl)
          have HF2 := Lib.hid hf2
          clear hsm hf2
          obtain ⟨c0, c1, c2, c3, c4, c5⟩ := HC3.out
          have HCP := Lib.hid (copy_bat _ b _ _ HR3.out hf1 HF2.out)
          unfold batV at HCP
          go_wp2_with fail
          refine HCP.out.mono ?_
          rintro e w4 ⟨rv4, rfl, hr4, hf4⟩
          obtain ⟨ra4, rcap4, hrv⟩ : ∃ a c, rv4 = .slice a b.recs.length c := by obtain ⟨a, c, h, -⟩ := hr4; exact ⟨a, c, h⟩
          subst hrv
          have SD4 := Lib.hid (SD3.out.old hf4)
          have AL4 := Lib.hid (AL3.out.old hf4)
          have HR4 := Lib.hid (hr4.mono (K' := fun x => w3.heap.size ≤ x ∧ x < w4.heap.size) fun x hx hl => ⟨hx, hl⟩)
          have HSZ := Lib.hid hf4.size
          clear hr4 hf4 HCP c0 c1 c2 c3 c4 c5
          have SDA := Lib.hid (SD4.out.old ((Fr.same w4).alloc (.cells (batBox b (.slice ra4 b.recs.length rcap4)) 34)))
          unfold batV
          unfold batBox at SDA
          go_wp2_with fail
          refine (send_walk SDA.out.sg).mono ?_
          obtain ⟨E, hE⟩ : ∃ E, E = (⟨0, 50, lst⟩ : Seg).end' := ⟨_, rfl⟩
          rw [← hE]
          rintro e w5 ⟨rfl, rfl⟩
          have HE := Lib.hid hE
          clear hE SDA
          have SD5 := Lib.hid (SD4.out.old ((Fr.same w4).alloc (.cells (batBox (withBase b E) (.slice ra4 b.recs.length rcap4)) 34)))
          have AL5 := Lib.hid (AL4.out.old ((Fr.same w4).alloc (.cells (batBox (withBase b E) (.slice ra4 b.recs.length rcap4)) 34)))
          have HR5 := Lib.hid (HR4.out.old ((Fr.same w4).alloc (.cells (batBox (withBase b E) (.slice ra4 b.recs.length rcap4)) 34)))
          have X5 := Lib.hid (heap_alloc_self w4 (.cells (batBox (withBase b E) (.slice ra4 b.recs.length rcap4)) 34))
          have hsum : sumB lst ≤ 900000000 := by
            have h9 := SD5.out.dk.sz
            rw [catB_size] at h9
            omega
          have HAP := Lib.hid (append1 SD5.out a1 a2 (fun x => w3.heap.size ≤ x ∧ x < w4.heap.size) (fun x hx hd => by have := SD3.out.dk.dk.lt hd; omega) (withBase b E) (.slice ra4 b.recs.length rcap4) HR5.out HST.out (by show lst.length < 800; omega) hsum hw0)
          have SW5 := Lib.hid (show (w4.alloc (.cells (batBox (withBase b E) (.slice ra4 b.recs.length rcap4)) 34)).heap.size = w4.heap.size + 1 by simp)
          unfold batV at HAP
          unfold batBox withBase at SD5 HR5 X5 HAP SW5 AL5
          dsimp only at SD5 HR5 X5 HAP SW5 AL5
          clear hsum
          go_wp2_with fail
          generalize (w4.alloc (.cells #[.int .i64 E, .int .i64 b.span, .int .i64 b.prod, .int .i64 b.epoch, .int .i64 b.seq, .slice ra4 b.recs.length rcap4] 34)) = W5 at *
          refine HAP.out.mono ?_
          rintro e w6 ⟨rfl, hok, hno⟩
          have hsz6 : W5.heap.size ≤ w6.heap.size := by
            by_cases h : apCode ⟨0, 50, lst⟩ ⟨E, b.span, b.prod, b.epoch, b.seq, b.recs⟩ 100000 ((catB lst).size : Nat) (-1) = 0
            · obtain ⟨_, _, _, h2, _⟩ := hok h
              exact h2.size
            · exact (hno h).size
          have HSZ6 := Lib.hid hsz6
          clear hsz6
          have HOK := Lib.hid hok
          have HNO := Lib.hid hno
          clear hok hno HAP
          have hco := apCode_ok (s := ⟨0, 50, lst⟩) (b := ⟨E, b.span, b.prod, b.epoch, b.seq, b.recs⟩) (room := 100000) (used := ((catB lst).size : Nat)) (fuse := -1)
          have HCO := Lib.hid hco
          clear hco
          generalize hcd : apCode ⟨0, 50, lst⟩ ⟨E, b.span, b.prod, b.epoch, b.seq, b.recs⟩ 100000 ((catB lst).size : Nat) (-1) = c at *
          clear hcd
          by_cases hc0 : c = 0
          · subst hc0
            obtain ⟨hbo, -⟩ := HCO.out rfl
            obtain ⟨L6, S6, hs6, hf6, hS6, hD6⟩ := HOK.out rfl
            clear HOK HNO HCO
            have hSlt : ∀ i, S i → i < w3.heap.size := fun i hi => (SD3.out.lt i hi).2
            have hDlt : ∀ i, DkS db mb L i → i < w3.heap.size := fun i hi => SD3.out.dk.dk.lt hi
            have hsz := HSZ.out
            have hnew : ¬ (S w4.heap.size ∨ DkS db mb L w4.heap.size) := fun h => by
              rcases h with h | h
              · have := hSlt _ h; omega
              · have := hDlt _ h; omega
            have X6 := Lib.hid ((hf6.block w4.heap.size (by have := SW5.out; omega) hnew).trans X5.out)
            have HR6 := Lib.hid (HR5.out.fr hf6 fun x hx h => by
              rcases h with h | h
              · have := hSlt _ h; omega
              · have := hDlt _ h; omega)
            have SD6 : SD w w6 sb db mb aS ⟨0, 50, lst ++ [⟨E, b.span, b.prod, b.epoch, b.seq, b.recs⟩]⟩ 100000 (catB (lst ++ [⟨E, b.span, b.prod, b.epoch, b.seq, b.recs⟩])) (sumB (lst.take y)) (-1) L6 S6 := by
              rw [catB_snoc]
              exact hs6
            have SD6 := Lib.hid SD6
            have AL6 := Lib.hid (AL5.out.step hf6 hS6 hD6)
            have HK6 := Lib.hid (show ∀ x, (w3.heap.size ≤ x ∧ x < w4.heap.size) → ¬ S6 x ∧ ¬ DkS db mb L6 x from fun x hx => ⟨fun h => by
              rcases hS6 x h with h | h
              · have := hSlt _ h; omega
              · have := SW5.out; omega, fun h => by
              rcases hD6 x h with h | h
              · have := hDlt _ h; omega
              · have := SW5.out; omega⟩)
            have c0 : w6.cell? ⟨w4.heap.size, 0, none⟩ = some (.int .i64 E) := (cell_of X6.out 0).trans rfl
            have c1 : w6.cell? ⟨w4.heap.size, 1, none⟩ = some (.int .i64 b.span) := (cell_of X6.out 1).trans rfl
            have c2 : w6.cell? ⟨w4.heap.size, 2, none⟩ = some (.int .i64 b.prod) := (cell_of X6.out 2).trans rfl
            have c3 : w6.cell? ⟨w4.heap.size, 3, none⟩ = some (.int .i64 b.epoch) := (cell_of X6.out 3).trans rfl
            have c4 : w6.cell? ⟨w4.heap.size, 4, none⟩ = some (.int .i64 b.seq) := (cell_of X6.out 4).trans rfl
            have c5 : w6.cell? ⟨w4.heap.size, 5, none⟩ = some (.slice ra4 b.recs.length rcap4) := (cell_of X6.out 5).trans rfl
            obtain ⟨KA, hK1, hK2, hK3⟩ := AL6.out
            have fa := (Fr.same w6).alloc (.cells (batCells ⟨E, b.span, b.prod, b.epoch, b.seq, b.recs⟩ (.slice ra4 b.recs.length rcap4)).toArray 34)
            have OWN := Lib.hid ((hK1.old fa).mono (K' := fun x => KA x ∨ (w3.heap.size ≤ x ∧ x < w4.heap.size)) fun x hx _ => .inl hx)
            have CA := Lib.hid (fun j => cell_alloc_new w6 (batCells ⟨E, b.span, b.prod, b.epoch, b.seq, b.recs⟩ (.slice ra4 b.recs.length rcap4)).toArray 34 j)
            have RR := Lib.hid ((HR6.out.old fa).mono (K' := fun x => (KA x ∨ (w3.heap.size ≤ x ∧ x < w4.heap.size)) ∧ (Value.slice ob lst.length ocap).ownBlock ≠ some x) fun x hx _ => ⟨.inr hx, fun e => by have h8 := HOB.out x e; have h9 := HW3.out; omega⟩)
            have FAL := Lib.hid fa
            have SD7 := Lib.hid (SD6.out.old fa)
            have HK2 := Lib.hid hK2
            have HK3 := Lib.hid hK3
            clear hSlt hDlt hsz hnew hs6 hf6 hS6 hD6 hbo hK1 hK2 hK3 fa
            unfold batCells at CA OWN RR FAL SD7
            dsimp only at CA OWN RR FAL SD7
            go_wp2_with (at_builtin; refine wpList_push_bat _ rfl (.tmp 62) (.tmp 64) rfl (fun x => KA x ∨ (w3.heap.size ≤ x ∧ x < w4.heap.size)) w.heap.size (.slice ob lst.length ocap) lst rfl OWN.out w6.heap.size 1 rfl ⟨E, b.span, b.prod, b.epoch, b.seq, b.recs⟩ (.slice ra4 b.recs.length rcap4) CA.out RR.out rfl (by omega) ?hBB ?_)
            case hBB => exact SD7.out.fr.size
            intro v8 w8 ho8 hg8 hb8
            obtain ⟨o8, c8, hv8⟩ := ho8.slice
            rw [List.length_append, List.length_singleton] at hv8
            subst hv8
            have hown := fun x (hx : (Value.slice ob lst.length ocap).ownBlock = some x) => (OWN.out.lt hx)
            have hfg : Fr (fun i => (Value.slice ob lst.length ocap).ownBlock = some i) (w6.alloc (.cells #[.int .i64 E, .int .i64 b.span, .int .i64 b.prod, .int .i64 b.epoch, .int .i64 b.seq, .slice ra4 b.recs.length rcap4] 34)) w8 := Fr.grown (Fr.refl _ _) hg8 fun x e => .inl e
            have SDX := Lib.hid (SD7.out.frame hfg (fun i hi e => (HK3.out i e).1 hi) (fun i hi e => (HK3.out i e).2 hi) fun i e => (hown i e).1)
            have hal : AllR w w8 (.slice o8 (lst.length + 1) c8) (lst ++ [⟨E, b.span, b.prod, b.epoch, b.seq, b.recs⟩]) db mb L6 S6 := by
              have z1 := hfg.size
              have z2 := FAL.out.size
              have z3 := HSZ6.out
              have z4 := SW5.out
              have z5 : (w6.alloc (.cells #[.int .i64 E, .int .i64 b.span, .int .i64 b.prod, .int .i64 b.epoch, .int .i64 b.seq, .slice ra4 b.recs.length rcap4] 34)).heap.size = w6.heap.size + 1 := by simp
              refine ⟨_, ho8, fun x hx => ?_, fun x hx => ?_⟩
              · rcases hx with hx | hx
                · have := HK2.out x hx
                  exact ⟨by omega, this.2⟩
                · have := HK6.out x hx
                  exact ⟨by omega, this⟩
              · rcases hb8 with h | h
                · exact HK3.out x (h ▸ hx)
                · rw [h] at hx
                  injection hx with hx
                  exact ⟨fun h9 => by have := (SD7.out.lt x h9).2; omega, fun h9 => by have := SD7.out.dk.dk.lt h9; omega⟩
            have ALX := Lib.hid hal
            clear ho8 hg8 hb8 hown hfg hal c0 c1 c2 c3 c4 c5
            by_cases hsafe : (k : Int) = safe
            · have hsb : ((k : Int) == safe) = true := by simpa using hsafe
              clear hsafe
              go_wp2_with fail
              refine (sync1 SDX.out a2).mono ?_
              rintro e w9 ⟨rfl, f9, hs9, hff9, hf9⟩
              have hf : f9 = -1 := by rcases hff9 with h | h <;> exact h
              subst hf
              rw [if_neg (by omega)] at hs9 ⊢
              have AL9 := Lib.hid (ALX.out.step (S' := S6) (L' := L6) (hf9.mono fun i h => .inl (.inr h)) (fun i h => .inl h) fun i h => .inl h)
              have SD9 := Lib.hid hs9
              clear hs9 hff9 hf9 hsb
              go_wp2_with fail
              go_roundw
              case rel => exact ⟨k + 1, lst ++ [(⟨E, b.span, b.prod, b.epoch, b.seq, b.recs⟩ : Bat)], _, _, (lst ++ [(⟨E, b.span, b.prod, b.epoch, b.seq, b.recs⟩ : Bat)]).length, by go_num, by simp, by omega, ⟨by rw [List.take_length, ← catB_size]; exact SD9.out, by simp; omega, Nat.le_refl _, AL9.out⟩⟩
              case measure => simp [intOf]; omega
            · have hsb : ((k : Int) == safe) = false := by simpa using hsafe
              clear hsafe
              go_wp2_with fail
              go_roundw
              case rel => exact ⟨k + 1, lst ++ [(⟨E, b.span, b.prod, b.epoch, b.seq, b.recs⟩ : Bat)], _, _, y, by go_num, rfl, by omega, ⟨by rw [List.take_append_of_le_length hyl]; exact SDX.out, by simp; omega, by simp; omega, ALX.out⟩⟩
              case measure => simp [intOf]; omega

          · have q1 : (c == 0) = false := by simpa using hc0
            have SDX := Lib.hid (SD5.out.old (HNO.out hc0))
            have ALX := Lib.hid (AL5.out.old (HNO.out hc0))
            clear hc0 HOK HNO HCO
            by_cases hsafe : (k : Int) = safe
            · have hsb : ((k : Int) == safe) = true := by simpa using hsafe
              clear hsafe
              go_wp2_with fail
              refine (sync1 SDX.out a2).mono ?_
              rintro e w9 ⟨rfl, f9, hs9, hff9, hf9⟩
              have hf : f9 = -1 := by rcases hff9 with h | h <;> exact h
              subst hf
              rw [if_neg (by omega)] at hs9 ⊢
              have AL9 := Lib.hid (ALX.out.step (S' := S) (L' := L) (hf9.mono fun i h => .inl (.inr h)) (fun i h => .inl h) fun i h => .inl h)
              have SD9 := Lib.hid hs9
              clear hs9 hff9 hf9 hsb
              go_wp2_with fail
              go_roundw
              case rel => exact ⟨k + 1, lst, _, _, (lst).length, by go_num, rfl, by omega, ⟨by rw [List.take_length, ← catB_size]; exact SD9.out, by omega, Nat.le_refl _, AL9.out⟩⟩
              case measure => simp [intOf]; omega
            · have hsb : ((k : Int) == safe) = false := by simpa using hsafe
              clear hsafe
              go_wp2_with fail
              go_roundw
              case rel => exact ⟨k + 1, lst, _, _, y, by go_num, rfl, by omega, ⟨SDX.out, by omega, hyl, ALX.out⟩⟩
              case measure => simp [intOf]; omega
      · have hsum : sumB lst ≤ 100000 := by
          have h9 := M.out.sd.dk.sz
          rw [catB_size] at h9
          omega
        have hch : Chn 0 lst := M.out.sd.sg.ok.ch
        have hNle := crN_le (m := sumB (lst.take y)) (s := (catB lst).size) (by rw [catB_size]; exact sumB_take_all _ _) keep
        have hNge : sumB (lst.take y) ≤ crN (sumB (lst.take y)) (catB lst).size keep := by unfold crN; omega
        obtain ⟨N, hN⟩ : ∃ N, N = crN (sumB (lst.take y)) (catB lst).size keep := ⟨_, rfl⟩
        rw [← hN] at hNle hNge
        have hN2 : N ≤ sumB lst := by rw [catB_size] at hNle; exact hNle
        obtain ⟨q, hq1, hq2, hq3⟩ := scan_cut hch (by omega) hN2
        have hq4 := hq3 y hNge hyl
        subst hN
        have HSCN := Lib.hid hq2
        have HCH := Lib.hid hch
        have SDA := Lib.hid (M.out.sd.old ((Fr.same wr).alloc (.cells #[.int .i64 keep] 3)))
        have ALA := Lib.hid (M.out.all.old ((Fr.same wr).alloc (.cells #[.int .i64 keep] 3)))
        have K9 := Lib.hid (show (wr.alloc (.cells #[.int .i64 keep] 3)).cell? ⟨wr.heap.size, 0, none⟩ = some (.int .i64 keep) from cell_alloc_new _ _ _ 0)
        have hqs : sumB (lst.take q) ≤ 100000 := Nat.le_trans (sumB_take_all _ _) hsum
        clear hch hNle hNge hN2 hq2 hq3
        go_wp2_with fail
        refine (crash1 SDA.out.dk SDA.out.fr (by unfold maxLen; omega) _ _ keep K9.out).mono ?_
        rintro e w3 ⟨⟨c, rfl⟩, hd3, hf3, hg3⟩
        have D3 := Lib.hid hd3
        have F3 := Lib.hid hf3
        have AL3 := Lib.hid (ALA.out.step (S' := S) (L' := L) (hg3.mono fun i h => .inl (.inr h)) (fun i h => .inl h) fun i h => .inl h)
        have DL3 := Lib.hid (fun i (hi : DkS db mb L i) => D3.out.dk.lt hi)
        clear hd3 hf3 hg3
        go_wp2_with fail
        refine (open1 D3.out F3.out (by omega) a1 a2 0 7 (by omega) (by omega) (by omega) (lst.take q) (sumB (lst.take q)) HSCN.out HST.out (by rw [List.length_take]; omega) hw0).mono ?_
        rintro e w5 ⟨tb, S5, f5, rfl, hs5, -, -, hf5⟩
        have SD5 := Lib.hid hs5
        have AL5 := Lib.hid (AL3.out.step (S' := S) (L' := L) (hf5.mono fun i h => .inl (.inr h)) (fun i h => .inl h) fun i h => .inl h)
        clear hs5 hf5
        have hpk : pick 0 1000000 (lst.take q) 0 [] = lst.take q := pick_all 0 1000000 (lst.take q) 0 [] (fun b hb => by
          have := (HCH.out.ok b (List.mem_of_mem_take hb)).1
          have h1 := this.base0
          have h2 := this.span0
          omega) (by omega)
        have HRD := Lib.hid (sread_walk SD5.out.sg 0 1000000)
        unfold ReadPost at HRD
        dsimp only at HRD
        rw [hpk] at HRD
        clear hpk
        go_wp2_with fail
        refine HRD.out.mono ?_
        rintro e w6 ⟨v6, rfl, hr6, hf6⟩
        have SD6 := Lib.hid (SD5.out.old hf6)
        have AL6 := Lib.hid (AL5.out.old hf6)
        have hlq : (lst.take q).length = q := by rw [List.length_take]; omega
        obtain ⟨oa6, cap6, hv6⟩ : ∃ a c, v6 = .slice a q c := by obtain ⟨a, c, h, -⟩ := hr6; exact ⟨a, c, by rw [h, hlq]⟩
        subst hv6
        obtain ⟨KA, hK1, hK2, hK3⟩ := AL6.out
        have hra : BatsR (fun _ => True) w6 (.slice ob q ocap) (lst.take q) := bats_take (hK1.reads (fun _ _ _ => trivial) fun _ _ _ => trivial) hq1
        have hpo : ∀ x ∈ lst.take q, x.recs.length ≤ 100 ∧ ∀ r ∈ x.recs, r.hs.length ≤ 100 := fun x hx => ok_few (HCH.out.ok x (List.mem_of_mem_take hx)).1
        have HSM := Lib.hid (same_bats _ _ (lst.take q) _ _ _ hr6 hra (by omega) hpo)
        have hcp : lst.length ≤ ocap := own_cap hK1
        clear hr6 hf6 hK1 hK2 hK3 hra hpo hlq HRD
        have z1 : ¬ (q : Int) < y := by omega
        have z2 : ¬ (lst.length : Int) < q := by omega
        go_wp2_with fail
        refine HSM.out.mono ?_
        rintro e w7 ⟨rfl, hf7⟩
        have F7 := Lib.hid (SD6.out.fr.tr hf7)
        clear hf7 HSM
        go_wp2_with fail
        refine (live_walk _ (HST.out.old F7.out) (Nat.le_trans hw0 F7.out.size)).mono ?_
        rintro e w8 ⟨rfl, hf8⟩
        have F8 := Lib.hid (F7.out.tr hf8)
        clear hf8
        go_wp2_with fail
        go_ret
        exact ⟨rfl, F8.out⟩
end Go.Proofs.YtgbcdgfpmihkcaaGreatDoor
