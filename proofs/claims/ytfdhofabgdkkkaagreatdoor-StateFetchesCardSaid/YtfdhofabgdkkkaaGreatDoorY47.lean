/- What one that produces is told, and fetched: the laws of one partition. -/
import Derived.Test.YtfdhofabgdkkkaaGreatDoorY46
namespace Go.Proofs.YtfdhofabgdkkkaaGreatDoor
open Go.RowKit Go.Fm Go.BigFrame Go.Shelf Go.Maps
set_option linter.unusedVariables false
set_option linter.unusedSimpArgs false
set_option maxRecDepth 100000
section
variable {w w' : World} {S : Nat → Prop}
theorem findW_mem {l : List Sent} {b : Bat} {x : Int} (h : findW l b = some x) : ∃ s ∈ l, s.2.1 = x := by
 unfold findW at h
 cases hf : l.reverse.find? fun s => decide (s.1 = b.seq ∧ s.2.2 = b.span) with
 | none => rw [hf] at h; cases h
 | some s =>
  rw [hf] at h
  exact ⟨s, List.mem_reverse.1 (List.mem_of_find?_eq_some hf), Option.some.inj h⟩
theorem chkW_again {ep : Int} {l : List Sent} {b : Bat} {x c : Int} (h : chkW ep l b = (x, true, c)) : ∃ s ∈ l, s.2.1 = x := by
 unfold chkW at h
 split at h
 ·simp at h
 ·split at h
  ·cases hf : findW l b with
   | some y => rw [hf] at h; injection h with h1 h2; subst h1; exact findW_mem hf
   | none => rw [hf] at h; dsimp only at h; split at h <;> simp at h
  ·split at h <;> simp at h
theorem chkP_again {F : ProdF} {b : Bat} {x c : Int} (h : chkP F b = (x, true, c)) : ∃ ep l, F b.prod = some (ep, l) ∧ ∃ s ∈ l, s.2.1 = x := by
 unfold chkP at h
 split at h
 ·simp at h
 ·split at h
  ·cases hf : F b.prod with
   | some p => rw [hf] at h; exact ⟨p.1, p.2, rfl, chkW_again h⟩
   | none => rw [hf] at h; obtain ⟨s, hs, -⟩ := chkW_again h; cases hs
  ·simp at h
theorem noteP_win {F : ProdF} {b : Bat} {M : Int} (h : ∀ i ep l, F i = some (ep, l) → ∀ s ∈ l, s.2.1 < M) (hb : b.base < M) : ∀ i ep l, noteP F b i = some (ep, l) → ∀ s ∈ l, s.2.1 < M := by
 intro i ep l hi
 unfold noteP at hi
 have up : ∀ (e : Int) (l' : List Sent), (∀ s ∈ l', s.2.1 < M) → updP F b.prod (e, l') i = some (ep, l) → ∀ s ∈ l, s.2.1 < M := by
  intro e l' hl hu
  unfold updP at hu
  split at hu
  ·injection hu with hu; injection hu with h1 h2; subst h2; exact hl
  ·exact h i ep l hu
 split at hi
 ·cases hf : F b.prod with
  | none =>
   rw [hf] at hi
   exact up _ _ (fun s hs => by obtain rfl := List.mem_singleton.1 hs; exact hb) hi
  | some p =>
   rw [hf] at hi
   dsimp only at hi
   split at hi
   ·exact h i ep l hi
   ·split at hi
    ·refine up _ _ (fun s hs => ?_) hi
     unfold pushW at hs
     rcases List.mem_append.1 hs with hs | hs
     ·refine h b.prod p.1 p.2 hf s ?_
      split at hs
      ·exact List.mem_of_mem_tail hs
      ·exact hs
     ·obtain rfl := List.mem_singleton.1 hs; exact hb
    ·exact up _ _ (fun s hs => by obtain rfl := List.mem_singleton.1 hs; exact hb) hi
 ·exact h i ep l hi
/-- The machine of StateFetches: what its second partition has. -/
structure FetSt (w0 w : World) (mb : Nat) (m : MachD) (d : PartD) (k : Nat) : Prop where
 o : OneT w0 w mb m 2
 f : findP m.L ⟨0, 1⟩ = some d
 st : d.st = 0
 en : 0 ≤ d.en ∧ d.en ≤ 50 * k
 ok : ∀ b ∈ d.bats, BatOK b
 le : ∀ b ∈ d.bats, b.base + b.span ≤ d.en
 n : d.n ≤ k
 len : d.bats.length ≤ k
 win : ∀ i ep l, d.F i = some (ep, l) → ∀ s ∈ l, s.2.1 < d.en
 z : ∃ d0, findP m.L ⟨0, 0⟩ = some d0 ∧ d0.en = 0
theorem FetSt.old {w0 : World} {mb : Nat} {m : MachD} {d : PartD} {k : Nat} (h : FetSt w0 w mb m d k) (hf : Fr (fun _ => False) w w') : FetSt w0 w' mb m d k :=
 ⟨⟨h.o.n.old hf, h.o.mb, h.o.tl, h.o.nx⟩, h.f, h.st, h.en, h.ok, h.le, h.n, h.len, h.win, h.z⟩
theorem FetSt.more {w0 : World} {mb : Nat} {m : MachD} {d : PartD} {k : Nat} (h : FetSt w0 w mb m d k) : FetSt w0 w mb m d (k + 1) :=
 ⟨h.o, h.f, h.st, ⟨h.en.1, by have := h.en.2; push_cast; omega⟩, h.ok, h.le, by have := h.n; omega, by have := h.len; omega, h.win, h.z⟩
/-- All blocks of a machine. -/
def MachD.A (m : MachD) (i : Nat) : Prop := m.B i ∨ ∃ x ∈ m.L, x.2.T i
theorem MachD.A_lt {m : MachD} (h : MachA w m) {i : Nat} (hi : m.A i) : i < w.heap.size := by
 rcases hi with h1 | ⟨x, hx, h1⟩
 ·exact h.low.1 i h1
 ·exact h.low.2 x hx i h1
/-- A block that is not the machine's has turned. -/
theorem FetSt.aside {w0 : World} {mb : Nat} {m : MachD} {d : PartD} {k : Nat} (h : FetSt w0 w mb m d k) {g : Nat} (hf : Fr (fun i => i = g) w w') (hg : w0.heap.size ≤ g) (hA : ¬ m.A g) : FetSt w0 w' mb m d k :=
 ⟨⟨⟨h.o.n.a.fr hf (fun i hi e => hA (e ▸ .inl hi)) fun x hx i hi e => hA (e ▸ .inr ⟨x, hx, hi⟩), h.o.n.bs, h.o.n.ts, h.o.n.f.trans hf fun i e => .inr (by omega)⟩, h.o.mb, h.o.tl, h.o.nx⟩, h.f, h.st, h.en, h.ok, h.le, h.n, h.len, h.win, h.z⟩
theorem fet_new {w0 : World} {mb : Nat} {m : MachD} {d d0 : PartD} (hO : OneT w0 w mb m 2) (hd : findP m.L ⟨0, 1⟩ = some d) (hn : NewP d) (h0 : findP m.L ⟨0, 0⟩ = some d0) (hn0 : NewP d0) : FetSt w0 w mb m d 0 := by
 refine ⟨hO, hd, hn.st, ⟨?_, ?_⟩, ?_, ?_, ?_, ?_, ?_, ⟨d0, h0, hn0.en⟩⟩
 ·rw [hn.en]; omega
 ·rw [hn.en]; omega
 ·intro b hb; rw [hn.bats] at hb; cases hb
 ·intro b hb; rw [hn.bats] at hb; cases hb
 ·rw [hn.n]; omega
 ·rw [hn.bats]; exact Nat.le_refl _
 ·intro i ep l h; rw [hn.F] at h; cases h
def ProdStep (w0 w : World) (mb : Nat) (m : MachD) (d : PartD) (k : Nat) (b0 : Bat) (e : Ending) (w' : World) : Prop :=
 ∃ ee cc, e = .returned (tellV ee cc) ∧ ∃ m' d', FetSt w0 w' mb m' d' (k + 1) ∧ Fr d.T w w' ∧ (∀ i, m'.A i → m.A i ∨ w.heap.size ≤ i) ∧
  ((ee = 0 ∧ cc = d.en ∧ BatOK (atB d b0) ∧ d'.bats = d.bats ++ [atB d b0] ∧ d'.en = d.en + b0.span) ∨ (¬ (ee = 0 ∧ cc = d.en) ∧ d'.en = d.en))
/-- Any batch, produced: taken at the log's end, or not. -/
theorem fet_prod {w0 : World} {mb : Nat} {m : MachD} {d : PartD} {k : Nat} (h : FetSt w0 w mb m d k) (hst : StepsOK w0) (hk : k < 100) (b : Bat) (rv : Value) (hr : RecsR (fun i => i < w.heap.size) w rv b.recs) :
  Calls Tryz.prog 12 #[.pointer (some ⟨mb, 0, none⟩), .agg (reqC (prodR tS 1 b) rv (.slice none 0 0) (.slice none 0 0)), .int .i64 1] w (ProdStep w0 w mb m d k b) := by
 have hm := findP_mem h.f
 have hbs : (optT b).size ≤ 60008 := by
  unfold optT
  split
  ·decide
  ·split
   ·rename_i hb; exact batS_top hb
   ·decide
 have hwf : ReqWf (prodR tS 1 b) := ⟨rfl, rfl, rfl, rfl, rfl, rfl, (show tS.size ≤ 100000 by decide), Nat.zero_le _, hbs⟩
 have P := do_produce h.o.n.a (prodR tS 1 b) rv _ _ _ _ _ true true (enc_in hr (fun i h => h) hwf (hst.old h.o.n.f) rfl rfl rfl) (enc_top hwf) rfl ((h.o.find 1).trans h.f) hm (by have := h.en; omega) (by have := h.n; omega) (by have := h.len; omega) 1
 rw [h.o.mb] at P
 refine P.mono ?_
 rintro e w' ⟨ee, cc, rfl, hc⟩
 have hpr : (prodR tS 1 b).bat = b := rfl
 rw [hpr] at hc
 refine ⟨ee, cc, rfl, ?_⟩
 have keep : MachA w' m → Fr (fun _ => False) w w' → FetSt w0 w' mb m d (k + 1) := fun ha hf => (h.old hf).more
 rcases hc with ⟨-, rfl, rfl, ha, hf⟩ | ⟨-, ⟨hok, hsz⟩, x, ag, c, hx, ⟨hca, rfl, hcc, ha, hf⟩ | ⟨rfl, rfl, rfl, rfl, d', h1, h2, h3, h4, h5, h6, h8, h7⟩⟩
 ·exact ⟨m, d, keep ha hf, hf.mono fun _ h => h.elim, fun i h => .inl h, .inr ⟨fun h => absurd h.1 (by decide), rfl⟩⟩
 ·refine ⟨m, d, keep ha hf, hf.mono fun _ h => h.elim, fun i h => .inl h, .inr ⟨fun hh => ?_, rfl⟩⟩
  obtain ⟨h1, h2⟩ := hh
  rcases hca with hca | hca
  ·exact hca h1
  ·subst hca h1
   obtain ⟨ep, l, e1, s, hs, e2⟩ := chkP_again hx
   have := h.win _ _ _ e1 s hs
   have := hcc rfl
   omega
 ·have hs0 : 1 ≤ b.span := hok.span0
  have hs1 : b.span ≤ 50 := hok.span1
  refine ⟨_, d', ⟨⟨h.o.n.set hm h1 h8 h7, h.o.mb, h.o.tl, h.o.nx⟩, ?_, by rw [h2, h.st], ?_, ?_, ?_, by rw [h6]; have := h.n; omega, by rw [h4, List.length_append]; have := h.len; simp; omega, ?_, ?_⟩, h7, ?_, .inl ⟨rfl, rfl, hok, h4, h3⟩⟩
  ·show findP (setP m.L ⟨0, 1⟩ d') ⟨0, 1⟩ = some d'
   rw [findP_set h.f, if_pos rfl]
  ·rw [h3]; have := h.en; push_cast; omega
  ·intro y hy
   rw [h4] at hy
   rcases List.mem_append.1 hy with hy | hy
   ·exact h.ok y hy
   ·obtain rfl := List.mem_singleton.1 hy; exact hok
  ·intro y hy
   rw [h4] at hy
   rw [h3]
   rcases List.mem_append.1 hy with hy | hy
   ·have := h.le y hy; omega
   ·obtain rfl := List.mem_singleton.1 hy
    show d.en + b.span ≤ d.en + b.span; omega
  ·rw [h5, h3]
   exact noteP_win (fun i ep l hi s hs => by have := h.win i ep l hi s hs; omega) (by show d.en < d.en + b.span; omega)
  ·obtain ⟨d0, e1, e2⟩ := h.z
   refine ⟨d0, ?_, e2⟩
   show findP (setP m.L ⟨0, 1⟩ d') ⟨0, 0⟩ = some d0
   rw [findP_set h.f, if_neg (by decide)]; exact e1
  ·rintro i (hi | ⟨y, hy, hi⟩)
   ·exact .inl (.inl hi)
   ·obtain ⟨z, hz, rfl⟩ := List.mem_map.1 hy
    by_cases e : z.1 = ⟨0, 1⟩
    ·rw [if_pos e] at hi
     exact (h8 i hi).imp (fun h => .inr ⟨_, hm, h⟩) id
    ·rw [if_neg e] at hi
     exact .inl (.inr ⟨z, hz, hi⟩)
theorem fetch_last {a : Int} {b : Bat} (hb : ¬ b.base + b.span ≤ a) : ∀ {l : List Bat} {n : Nat}, (∀ x ∈ l, x.base + x.span ≤ a) → fetchF a 0 (l ++ [b]) n [] = [b]
 | [], n, h => by rw [List.nil_append, fetchF_more hb (fun h => by simp at h)]; rfl
 | x :: l, n, h => by rw [List.cons_append, fetchF_skip (h x (List.mem_cons_self))]; exact fetch_last hb fun y hy => h y (List.mem_cons_of_mem _ hy)
/-- What was produced last is fetched. -/
theorem fet_fetch {w0 : World} {mb : Nat} {m : MachD} {d : PartD} {k : Nat} (h : FetSt w0 w mb m d k) (hst : StepsOK w0) (hk : k ≤ 100) {l : List Bat} {b : Bat} (hl : d.bats = l ++ [b]) (he : b.base + b.span = d.en) (hs : 1 ≤ b.span) (hb0 : 0 ≤ b.base) (hle : ∀ x ∈ l, x.base + x.span ≤ b.base) :
  Calls Tryz.prog 12 #[.pointer (some ⟨mb, 0, none⟩), plainV 5 tS 1 0 b.base, .int .i64 1] w fun e w' => ∃ oa c, e = .returned (.agg (repA 0 0 0 d.en 0 0 0 (.slice oa 1 c) (.slice none 0 0) (.slice none 0 0))) ∧ BatsR (fun i => w.heap.size ≤ i) w' (.slice oa 1 c) [b] ∧ FetSt w0 w' mb m d k ∧ Fr (fun _ => False) w w' := by
 have hm := findP_mem h.f
 have i1 := plain_in (kind := 5) (name := tS) (index := 1) (count := 0) (from' := b.base) (by omega) (by decide) (by omega) (by omega) (by have := h.en; omega)
 have P := do_fetch h.o.n.a (plainR 5 tS 1 0 b.base) (.slice none 0 0) (.slice none 0 0) _ _ _ true true (plain_enc i1 (hst.old h.o.n.f)) (enc_top i1.wf) (enc_yes i1) rfl ((h.o.find 1).trans h.f) hm h.ok (by have := h.len; omega) rfl rfl rfl 1
 rw [h.o.mb] at P
 refine P.mono ?_
 rintro e w' ⟨hp, ha⟩
 have hfr := fetch_fr hp
 rcases hp with ⟨h1, -⟩ | ⟨h1, bv, rfl, hb, -⟩
 ·exact absurd ⟨by rw [h.st]; exact hb0, by show b.base ≤ d.en; omega⟩ h1
 ·have hf : fetchF (plainR 5 tS 1 0 b.base).from' (plainR 5 tS 1 0 b.base).count d.bats 0 [] = [b] := by rw [hl]; exact fetch_last (by show ¬ b.base + b.span ≤ b.base; omega) hle
  rw [hf] at hb
  have hb2 := hb
  obtain ⟨oa, c, rfl, -⟩ := hb
  exact ⟨oa, c, by rw [h.st]; rfl, hb2, h.old hfr, hfr⟩
theorem fet_end {w0 : World} {mb : Nat} {m : MachD} {d : PartD} {k : Nat} (h : FetSt w0 w mb m d k) (ix : Int) (hi : ix = 0 ∨ ix = 1) : Calls Tryz.prog 16 #[.pointer (some ⟨mb, 0, none⟩), .string ⟨#[116]⟩, .int .i64 ix] w fun e w' => e = .returned (.int .i64 (if ix = 0 then 0 else d.en)) ∧ Fr (fun _ => False) w w' := by
 have P := mend_walk h.o.n.a tS ix (by decide) (by rcases hi with rfl | rfl <;> rfl)
 rw [h.o.mb] at P
 refine P.mono ?_
 rintro e w' ⟨rfl, hf⟩
 refine ⟨?_, hf⟩
 have e1 : findM m tS ix = findP m.L ⟨0, ix⟩ := h.o.find ix
 unfold endM
 rw [e1]
 rcases hi with rfl | rfl
 ·obtain ⟨d0, h1, h2⟩ := h.z
  rw [h1]; simp only [h2, if_true]
 ·rw [h.f]; rfl
end
end Go.Proofs.YtfdhofabgdkkkaaGreatDoor
