/- A partition's log in memory; last, End, Start, Size, Segment, Sync: the walks. -/
import Derived.Test.YtdlnafhhkpklmaaGreatDoorY33
import Derived.Test.YtdlnafhhkpklmaaGreatDoorY35
import Derived.Test.YtdlnafhhkpklmaaGreatDoorY31
namespace Go.Proofs.YtdlnafhhkpklmaaGreatDoor
open Go.RowKit Go.Fm Go.BigFrame Go.Shelf Go.Maps
set_option linter.unusedVariables false
set_option linter.unusedSimpArgs false
set_option maxRecDepth 100000
def lgObj (p : ByteArray) (lim ev : Nat) (db : Nat) (beg : Int) (sv : Value) : Obj := .cells #[.string p, .int .i64 lim, .int .i64 ev, .pointer (some ⟨db, 0, none⟩), .int .i64 beg, sv] 89 (0, 0)
/-- A segment of a log: where it stands, what it is, its blocks. -/
structure PE where
 sb : Nat
 s : Seg
 S : Nat → Prop
def segV (e : PE) : Value := .pointer (some ⟨e.sb, 0, none⟩)
/-- A slice of segments that can be read; where it stands. -/
def SegsR (w : World) (sv : Value) (es : List PE) (G : Nat → Prop) : Prop := ∃ oa cap, sv = .slice oa es.length cap ∧ es.length ≤ cap ∧ cap ≤ maxLen ∧ ∀ k e, es[k]? = some e → ∃ a, oa = some a ∧ w.cell? (a.add k) = some (segV e) ∧ G a.block
/-- What a log's blocks are: its own, its slice's, its segments'. -/
def lgFoot (lb : Nat) (G : Nat → Prop) (es : List PE) (i : Nat) : Prop := i = lb ∨ G i ∨ ∃ e ∈ es, e.S i
structure LgV (B : Nat) (w : World) (lb db mb : Nat) (p : ByteArray) (lim ev : Nat) (beg : Int) (es : List PE) (own : Bool) (L : List Row) (sv : Value) (G : Nat → Prop) : Prop where
 b : w.heap[lb]? = some (lgObj p lim ev db beg sv)
 rd : SegsR w sv es G
 ow : own = true → w.ownsRow B 96 1 sv es.length (es.map segV) ∧ ∀ g, sv.ownBlock = some g → G g
 sg : ∀ e ∈ es, Sg B w e.sb db (nmS p e.s.base) e.s e.S
 lt : ∀ i, lgFoot lb G es i → B ≤ i ∧ i < w.heap.size
 ap : ∀ i, lgFoot lb G es i → ¬ DkS db mb L i
 nb : ∀ i, (G i ∨ ∃ e ∈ es, e.S i) → i ≠ lb
 ng : ∀ i, G i → ∀ e ∈ es, ¬ e.S i
 nn : es.Pairwise fun x y => ∀ i, x.S i → ¬ y.S i
 p1 : 1 ≤ p.size
 p2 : p.size ≤ 20
 l1 : 50 ≤ lim
 l2 : lim ≤ 1000000
 e1 : 1 ≤ ev
 e2 : ev ≤ 1000000
 b0 : 0 ≤ beg
 b1 : beg ≤ 1099511627826
 n : es.length ≤ 800
 evs : ∀ e ∈ es, e.s.base ≤ 1099511627776
def Lg (B : Nat) (w : World) (lb db mb : Nat) (p : ByteArray) (lim ev : Nat) (beg : Int) (es : List PE) (own : Bool) (L : List Row) (S : Nat → Prop) : Prop :=
 ∃ sv G, LgV B w lb db mb p lim ev beg es own L sv G ∧ ∀ i, S i ↔ lgFoot lb G es i
section
variable {B : Nat} {w w' : World} {lb db mb : Nat} {p : ByteArray} {lim ev : Nat} {beg : Int} {es : List PE} {own : Bool} {L : List Row} {S : Nat → Prop} {sv : Value} {G : Nat → Prop}
theorem SegsR.fr {R : Nat → Prop} (h : SegsR w sv es G) (hf : Fr R w w') (hG : ∀ i, G i → ¬ R i) : SegsR w' sv es G := by
 obtain ⟨oa, cap, h1, h2, h3, h4⟩ := h
 refine ⟨oa, cap, h1, h2, h3, fun k e he => ?_⟩
 obtain ⟨a, h5, h6, h7⟩ := h4 k e he
 exact ⟨a, h5, hf.cell h6 (by rw [add_blk]; exact hG _ h7), h7⟩
theorem LgV.fr {R : Nat → Prop} (h : LgV B w lb db mb p lim ev beg es own L sv G) (hf : Fr R w w') (hd : ∀ i, lgFoot lb G es i → ¬ R i) : LgV B w' lb db mb p lim ev beg es own L sv G :=
 ⟨(hf.block _ (lt_of_heap h.b) (hd _ (.inl rfl))).trans h.b, h.rd.fr hf fun i hi => hd i (.inr (.inl hi)),
  fun ho => ⟨own_eq (h.ow ho).1 fun k hk => hf.block k (own_lt (h.ow ho).1 hk).2 (hd k (.inr (.inl ((h.ow ho).2 k hk)))), (h.ow ho).2⟩,
  fun e he => (h.sg e he).fr hf fun i hi => hd i (.inr (.inr ⟨e, he, hi⟩)), fun i hi => ⟨(h.lt i hi).1, Nat.lt_of_lt_of_le (h.lt i hi).2 hf.size⟩, h.ap, h.nb, h.ng, h.nn, h.p1, h.p2, h.l1, h.l2, h.e1, h.e2, h.b0, h.b1, h.n, h.evs⟩
theorem Lg.fr {R : Nat → Prop} (h : Lg B w lb db mb p lim ev beg es own L S) (hf : Fr R w w') (hd : ∀ i, S i → ¬ R i) : Lg B w' lb db mb p lim ev beg es own L S := by
 obtain ⟨sv, G, h1, h2⟩ := h
 exact ⟨sv, G, h1.fr hf fun i hi => hd i ((h2 i).2 hi), h2⟩
theorem Lg.old (h : Lg B w lb db mb p lim ev beg es own L S) (hf : Fr (fun _ => False) w w') : Lg B w' lb db mb p lim ev beg es own L S := h.fr hf fun _ _ h => h
theorem Lg.lt (h : Lg B w lb db mb p lim ev beg es own L S) {i : Nat} (hi : S i) : B ≤ i ∧ i < w.heap.size := by
 obtain ⟨sv, G, h1, h2⟩ := h
 exact h1.lt i ((h2 i).1 hi)
theorem Lg.ap (h : Lg B w lb db mb p lim ev beg es own L S) {i : Nat} (hi : S i) : ¬ DkS db mb L i := by
 obtain ⟨sv, G, h1, h2⟩ := h
 exact h1.ap i ((h2 i).1 hi)
def lastV (es : List PE) : Value := match es.getLast? with
 | none => .pointer none
 | some e => segV e
theorem last_walk (h : Lg B w lb db mb p lim ev beg es own L S) : Calls Tryz.prog 49 #[.pointer (some ⟨lb, 0, none⟩)] w fun e w' => e = .returned (lastV es) ∧ Fr (fun _ => False) w w' := by
 obtain ⟨sv, G, h1, -⟩ := h
 obtain ⟨oa, cap, rfl, hcap, hml, hrd⟩ := h1.rd
 have c5 : w.cell? ⟨lb, 5, none⟩ = some (.slice oa es.length cap) := (cell_of h1.b 5).trans rfl
 have hn := h1.n
 have RD := Lib.hid hrd
 clear h1 hrd
 rcases Nat.eq_zero_or_pos es.length with h0 | h0
 ·obtain rfl : es = [] := List.eq_nil_of_length_eq_zero h0
  simp only [List.length_nil] at c5
  go_enter Tryz.func49, Tryz.ntmps49
  go_wp2_with fail
  go_ret
  exact ⟨rfl, Fr.same _⟩
 ·obtain ⟨e, he⟩ := get_of_lt (l := es) (k := es.length - 1) (by omega)
  have hl : lastV es = segV e := by unfold lastV; rw [List.getLast?_eq_getElem?, he]
  obtain ⟨a, rfl, hc, -⟩ := RD.out _ e he
  rw [hl]
  have hne : (((es.length : Nat) : Int) == 0) = false := beq_eq_false_iff_ne.2 (by omega)
  have hidx : ((es.length : Nat) : Int) - 1 = ((es.length - 1 : Nat) : Int) := by omega
  unfold segV at hc
  go_enter Tryz.func49, Tryz.ntmps49
  go_wp2_with fail
  go_quiet (fail)
  go_wp2_with fail
  go_ret
  exact ⟨rfl, (Fr.same _).drewN _⟩
theorem Lg.seg (h : Lg B w lb db mb p lim ev beg es own L S) {e : PE} (he : e ∈ es) : Sg B w e.sb db (nmS p e.s.base) e.s e.S := by
 obtain ⟨sv, G, h1, -⟩ := h
 exact h1.sg e he
theorem Lg.begc (h : Lg B w lb db mb p lim ev beg es own L S) : w.cell? ⟨lb, 4, none⟩ = some (.int .i64 beg) := by
 obtain ⟨sv, G, h1, -⟩ := h
 exact (cell_of h1.b 4).trans rfl
def lgEnd (beg : Int) (es : List PE) : Int := match es.getLast? with
 | none => beg
 | some e => e.s.end'
theorem lend_walk (h : Lg B w lb db mb p lim ev beg es own L S) : Calls Tryz.prog 14 #[.pointer (some ⟨lb, 0, none⟩)] w fun e w' => e = .returned (.int .i64 (lgEnd beg es)) ∧ Fr (fun _ => False) w w' := by
 have HL := Lib.hid (last_walk h)
 have H := Lib.hid h
 clear h
 unfold lastV at HL
 unfold lgEnd
 cases hl : es.getLast? with
 | none =>
  rw [hl] at HL
  dsimp only at HL ⊢
  go_enter Tryz.func14, Tryz.ntmps14
  go_wp2_with fail
  refine HL.out.mono ?_
  rintro e w1 ⟨rfl, hf⟩
  have F1 := Lib.hid hf
  have cb := (H.out.old hf).begc
  clear hf
  go_wp2_with fail
  go_ret
  exact ⟨rfl, F1.out⟩
 | some x =>
  rw [hl] at HL
  dsimp only at HL ⊢
  unfold segV at HL
  have hx := List.mem_of_getLast? hl
  go_enter Tryz.func14, Tryz.ntmps14
  go_wp2_with fail
  refine HL.out.mono ?_
  rintro e w1 ⟨rfl, hf⟩
  have F1 := Lib.hid hf
  have HE := Lib.hid (send_walk ((H.out.old hf).seg hx))
  clear hf
  go_wp2_with fail
  refine HE.out.mono ?_
  rintro e w2 ⟨rfl, rfl⟩
  go_wp2_with fail
  go_ret
  exact ⟨rfl, F1.out⟩
theorem lstart_walk (h : Lg B w lb db mb p lim ev beg es own L S) : Calls Tryz.prog 20 #[.pointer (some ⟨lb, 0, none⟩)] w fun e w' => e = .returned (.int .i64 beg) ∧ Fr (fun _ => False) w w' := by
 have cb := h.begc
 clear h
 go_enter Tryz.func20, Tryz.ntmps20
 go_wp2_with fail
 go_ret
 exact ⟨rfl, Fr.same _⟩
def lgSize (es : List PE) : Nat := (es.map fun e => sumB e.s.l).sum
theorem lgSize_snoc (es : List PE) (e : PE) : lgSize (es ++ [e]) = lgSize es + sumB e.s.l := by simp [lgSize]
theorem Lg.small (h : Lg B w lb db mb p lim ev beg es own L S) : ∀ k, k ≤ es.length → lgSize (es.take k) ≤ k * 1000000000 := by
 intro k
 induction k with
 | zero => intro _; simp [lgSize]
 | succ k ih =>
  intro hk
  obtain ⟨e, he⟩ := get_of_lt (l := es) (k := k) (by omega)
  have h1 := ih (by omega)
  have h2 := (h.seg (List.mem_of_getElem? he)).ok.sum
  rw [take_snoc' he, lgSize_snoc]
  omega
def LSegPost (es : List PE) (i : Int) (w : World) (e : Ending) (w' : World) : Prop :=
 ∃ (v : Value) (ok : Bool), e = .returned (.tuple #[v, .bool ok]) ∧ (ok = true ↔ 0 ≤ i ∧ i < es.length) ∧ (ok = false → v = .slice none 0 0) ∧ (∀ x, ok = true → es[i.toNat]? = some x → BatsR (fun b => w.heap.size ≤ b) w' v (pick 0 1099511627776 x.s.l 0 [])) ∧ Fr (fun _ => False) w w'
theorem lsegment_walk (h : Lg B w lb db mb p lim ev beg es own L S) (i : Int) : Calls Tryz.prog 16 #[.pointer (some ⟨lb, 0, none⟩), .int .i64 i] w (LSegPost es i w) := by
 have H := Lib.hid h
 obtain ⟨sv, G, h1, -⟩ := h
 obtain ⟨oa, cap, rfl, hcap, hml, hrd⟩ := h1.rd
 have c5 : w.cell? ⟨lb, 5, none⟩ = some (.slice oa es.length cap) := (cell_of h1.b 5).trans rfl
 have hn := h1.n
 have RD := Lib.hid hrd
 clear h1 hrd
 by_cases hbad : i < 0 ∨ (es.length : Int) ≤ i
 ·have h2 : i < 0 ∨ (¬ i < 0 ∧ (es.length : Int) ≤ i) := by omega
  rcases h2 with h2 | ⟨h2, h3⟩
  all_goals
   clear hbad
   go_enter Tryz.func16, Tryz.ntmps16
   go_wp2_with fail
   go_ret2
   exact ⟨_, false, rfl, by simp; omega, fun _ => rfl, fun x h => (by cases h), Fr.same _⟩
 ·have h2 : ¬ i < 0 := by omega
  obtain ⟨k, rfl⟩ : ∃ k : Nat, i = k := ⟨i.toNat, by omega⟩
  have hlt : k < es.length := by omega
  obtain ⟨x, hx⟩ := get_of_lt hlt
  obtain ⟨a, rfl, hc, -⟩ := RD.out k x hx
  have HR := Lib.hid (sread_walk (H.out.seg (List.mem_of_getElem? hx)) 0 1099511627776)
  unfold segV at hc
  have h3 : ¬ ((es.length : Nat) : Int) ≤ (k : Int) := by omega
  clear hbad h2
  go_enter Tryz.func16, Tryz.ntmps16
  go_wp2_with fail
  refine HR.out.mono ?_
  rintro e w2 ⟨v, rfl, hv, hf⟩
  have HV := Lib.hid hv
  have F2 := Lib.hid hf
  clear hv hf
  go_wp2_with fail
  go_ret2
  refine ⟨v, true, rfl, by simp; omega, fun h => (by cases h), fun y _ hy => ?_, F2.out⟩
  rw [Int.toNat_natCast, hx] at hy
  injection hy with hy
  subst hy
  exact HV.out
end
end Go.Proofs.YtdlnafhhkpklmaaGreatDoor
