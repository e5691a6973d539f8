/- A producer that sends each batch twice: the laws of one partition. -/
import Derived.Test.YtfdhofabgdkkkaaGreatDoorZ50
namespace Go.Proofs.YtfdhofabgdkkkaaGreatDoor
open Go.RowKit Go.Fm Go.BigFrame Go.Shelf Go.Maps
set_option linter.unusedVariables false
set_option linter.unusedSimpArgs false
set_option maxRecDepth 100000
section
variable {w w' : World} {S : Nat → Prop}
theorem findW_last {l : List Sent} {b : Bat} {s : Sent} (h1 : s.1 = b.seq) (h2 : s.2.2 = b.span) : findW (l ++ [s]) b = some s.2.1 := by
 unfold findW
 rw [List.reverse_append, List.reverse_singleton, List.singleton_append, List.find?_cons_of_pos (by simpa using ⟨h1, h2⟩)]
 rfl
theorem findW_none {l : List Sent} {b : Bat} (h : ∀ x ∈ l, x.1 < b.seq) : findW l b = none := by
 unfold findW
 rw [List.find?_eq_none.2 fun x hx => by have := h x (List.mem_reverse.1 hx); simp; omega]
 rfl
theorem nextW_last (l : List Sent) (s : Sent) : nextW (l ++ [s]) = s.1 + s.2.2 := by
 unfold nextW
 rw [List.getLast?_append]
 simp
theorem push_form (l : List Sent) (s : Sent) : ∃ l', pushW l s = l' ++ [s] ∧ ∀ x ∈ l', x ∈ l := by
 unfold pushW
 split
 ·exact ⟨_, rfl, fun x hx => List.mem_of_mem_tail hx⟩
 ·exact ⟨_, rfl, fun x hx => hx⟩
/-- The batch of so many places that the producer sends. -/
def agB (n sp s : Int) : Bat := ⟨n, sp, 0, 0, s, []⟩
theorem agB_body {n sp s : Int} (hn : 0 ≤ n ∧ n ≤ 2000) (hp : 1 ≤ sp ∧ sp ≤ 50) (hs : 0 ≤ s ∧ s ≤ 2000) : (bodyS (agB n sp s)).size ≤ 60 := by
 have e : bodyS (agB n sp s) = putS n ++ putS sp ++ putS 0 ++ putS 0 ++ putS s ++ putS 0 := rfl
 rw [e]
 simp only [ByteArray.size_append]
 have h : ∀ x : Int, 0 ≤ x → x ≤ 2000 → (putS x).size ≤ 10 := fun x h0 h1 => putS_size (by simp [Lit.wf, IntKind.min, IntKind.max, IntKind.signed, IntKind.bits]; omega)
 have := h n (by omega) (by omega)
 have := h sp (by omega) (by omega)
 have := h s (by omega) (by omega)
 have := putS0
 omega
theorem agB_ok {n sp s : Int} (hn : 0 ≤ n ∧ n ≤ 2000) (hp : 1 ≤ sp ∧ sp ≤ 50) (hs : 0 ≤ s ∧ s ≤ 2000) : BatOK (agB n sp s) :=
 ⟨hn.1, by show n ≤ _; omega, hp.1, hp.2, .inr ⟨(show (0 : Int) ≠ -1 by omega), ⟨by show (0 : Int) ≤ 0; omega, by show (0 : Int) ≤ 1073741824; omega⟩, ⟨by show (0 : Int) ≤ 0; omega, by show (0 : Int) ≤ 32768; omega⟩, ⟨hs.1, by show s ≤ 1073741824; omega⟩⟩, by show 0 ≤ 50; omega, fun k r hk => by simp [agB] at hk, by have := agB_body hn hp hs; omega⟩
theorem agB_size {n sp s : Int} (hn : 0 ≤ n ∧ n ≤ 2000) (hp : 1 ≤ sp ∧ sp ≤ 50) (hs : 0 ≤ s ∧ s ≤ 2000) : (batS (agB n sp s)).size ≤ 68 := by
 rw [batS_size]
 have := agB_body hn hp hs
 omega
theorem agB_may {n sp s : Int} (hn : 0 ≤ n ∧ n ≤ 2000) (hp : 1 ≤ sp ∧ sp ≤ 50) (hs : 0 ≤ s ∧ s ≤ 2000) : IMay (agB n sp s) := by
 unfold IMay agB
 dsimp only
 omega
theorem ag_in {sp s : Int} (hp : 1 ≤ sp ∧ sp ≤ 50) (hs : 0 ≤ s ∧ s ≤ 2000) : ReqIn (prodR tS 0 (agB 0 sp s)) := by
 have hne : emptyB (agB 0 sp s) = false := by
  cases h : emptyB (agB 0 sp s) with
  | false => rfl
  | true => exfalso; unfold emptyB agB at h; simp at h; omega
 obtain ⟨h1, h2⟩ := optT_ok hne (agB_ok (n := 0) (by omega) hp hs)
 refine ⟨⟨by show (1 : Int) ≤ 4; omega, by show (4 : Int) ≤ 14; omega⟩, ⟨by show (-1 : Int) ≤ 0; omega, by show (0 : Int) ≤ 2199023255552; omega⟩, ⟨by show (-1 : Int) ≤ 0; omega, by show (0 : Int) ≤ 2199023255552; omega⟩, ⟨by show (-1 : Int) ≤ 0; omega, by show (0 : Int) ≤ 2199023255552; omega⟩, ⟨by show (-1 : Int) ≤ 0; omega, by show (0 : Int) ≤ 2199023255552; omega⟩, ⟨by show (-1 : Int) ≤ 0; omega, by show (0 : Int) ≤ 2199023255552; omega⟩, by show tS.size ≤ 100; decide, Nat.zero_le _, h2, ?_⟩
 show (optT (agB 0 sp s)).size ≤ 50000
 rw [h1]
 have := agB_size (n := 0) (by omega) hp hs
 omega
/-- What was heard of the one producer: nothing, or a window that ends where the next one begins. -/
def AgWin (F : ProdF) (s : Int) : Prop := (s = 0 ∧ F 0 = none) ∨ ∃ l, F 0 = some (0, l) ∧ nextW l = s ∧ ∀ x ∈ l, x.1 + x.2.2 ≤ s ∧ 1 ≤ x.2.2
theorem ag_chk {F : ProdF} {n sp s : Int} (h : AgWin F s) (hn : 0 ≤ n ∧ n ≤ 2000) (hp : 1 ≤ sp ∧ sp ≤ 50) (hs : 0 ≤ s ∧ s ≤ 2000) : chkP F (agB n sp s) = (0, false, 0) := by
 unfold chkP
 rw [if_neg (show ¬ (agB n sp s).prod = -1 by show ¬ ((0 : Int) = -1); omega), if_pos (show IMay { agB n sp s with base := 0 } from agB_may (n := 0) (by omega) hp hs)]
 show (match F 0 with | some p => chkW p.1 p.2 (agB n sp s) | none => chkW (-1) [] (agB n sp s)) = _
 rcases h with ⟨rfl, h⟩ | ⟨l, h, hx, hl⟩
 ·rw [h]
  rfl
 ·rw [h]
  show chkW 0 l (agB n sp s) = _
  unfold chkW
  rw [if_neg (show ¬ (agB n sp s).epoch < 0 by show ¬ ((0 : Int) < 0); omega), if_pos (show (agB n sp s).epoch = 0 from rfl), findW_none fun x hx => by have := hl x hx; show x.1 < s; omega]
  dsimp only
  rw [if_pos (show (agB n sp s).seq = nextW l from hx.symm)]
theorem ag_twice {F : ProdF} {n n' sp s : Int} (h : ∃ l, F 0 = some (0, l ++ [(s, n, sp)])) (hp : 1 ≤ sp ∧ sp ≤ 50) (hs : 0 ≤ s ∧ s ≤ 2000) : chkP F (agB n' sp s) = (n, true, 0) := by
 obtain ⟨l, h⟩ := h
 unfold chkP
 rw [if_neg (show ¬ (agB n' sp s).prod = -1 by show ¬ ((0 : Int) = -1); omega), if_pos (show IMay { agB n' sp s with base := 0 } from agB_may (n := 0) (by omega) hp hs)]
 show (match F 0 with | some p => chkW p.1 p.2 (agB n' sp s) | none => chkW (-1) [] (agB n' sp s)) = _
 rw [h]
 show chkW 0 (l ++ [(s, n, sp)]) (agB n' sp s) = _
 unfold chkW
 rw [if_neg (show ¬ (agB n' sp s).epoch < 0 by show ¬ ((0 : Int) < 0); omega), if_pos (show (agB n' sp s).epoch = 0 from rfl), findW_last rfl rfl]
theorem ag_note {F : ProdF} {n sp s : Int} (h : AgWin F s) (hn : 0 ≤ n ∧ n ≤ 2000) (hp : 1 ≤ sp ∧ sp ≤ 50) (hs : 0 ≤ s ∧ s ≤ 2000) : (∃ l, noteP F (agB n sp s) 0 = some (0, l ++ [(s, n, sp)])) ∧ AgWin (noteP F (agB n sp s)) (s + sp) := by
 have hh : ∃ l, noteP F (agB n sp s) 0 = some (0, l ++ [(s, n, sp)]) ∧ ∀ x ∈ l, x.1 + x.2.2 ≤ s ∧ 1 ≤ x.2.2 := by
  unfold noteP
  rw [if_pos (agB_may hn hp hs)]
  show ∃ l, (match F 0 with | some p => if (agB n sp s).epoch < p.1 then F else if (agB n sp s).epoch = p.1 then updP F (agB n sp s).prod (p.1, pushW p.2 ((agB n sp s).seq, (agB n sp s).base, (agB n sp s).span)) else updP F (agB n sp s).prod ((agB n sp s).epoch, [((agB n sp s).seq, (agB n sp s).base, (agB n sp s).span)]) | none => updP F (agB n sp s).prod ((agB n sp s).epoch, [((agB n sp s).seq, (agB n sp s).base, (agB n sp s).span)])) 0 = _ ∧ _
  rcases h with ⟨rfl, h⟩ | ⟨l, h, hx, hl⟩
  ·rw [h]
   exact ⟨[], rfl, fun x hx => by cases hx⟩
  ·rw [h]
   dsimp only
   rw [if_neg (show ¬ (agB n sp s).epoch < 0 by show ¬ ((0 : Int) < 0); omega), if_pos (show (agB n sp s).epoch = 0 from rfl)]
   obtain ⟨l', e, hl'⟩ := push_form l (s, n, sp)
   refine ⟨l', ?_, fun x hx => hl x (hl' x hx)⟩
   show some ((0 : Int), pushW l (s, n, sp)) = _
   rw [e]
 obtain ⟨l, h1, h2⟩ := hh
 refine ⟨⟨l, h1⟩, .inr ⟨_, h1, nextW_last _ _, fun x hx => ?_⟩⟩
 rcases List.mem_append.1 hx with hx | hx
 ·have := h2 x hx; omega
 ·obtain rfl := List.mem_singleton.1 hx
  show s + sp ≤ s + sp ∧ 1 ≤ sp
  omega
/-- The machine of StateAgain: what its partition has. -/
structure AgSt (w0 w : World) (mb : Nat) (m : MachD) (d : PartD) (k : Nat) (s : Int) : Prop where
 n : MachN w0 w m
 mb : m.mb = mb
 tl : m.TL = [(tS, oneV 0 1)]
 f : findP m.L ⟨0, 0⟩ = some d
 en : d.en = s
 s0 : 0 ≤ s ∧ s ≤ 50 * k
 cn : d.n ≤ k
 len : d.bats.length ≤ k
 win : AgWin d.F s
theorem AgSt.find {w0 : World} {mb : Nat} {m : MachD} {d : PartD} {k : Nat} {s : Int} (h : AgSt w0 w mb m d k s) : findM m tS 0 = some d := by
 have e : getG m.TL tS = some (oneV 0 1) := by rw [h.tl]; rfl
 refine Eq.trans ?_ h.f
 unfold findM; rw [e]; rfl
theorem AgSt.old {w0 : World} {mb : Nat} {m : MachD} {d : PartD} {k : Nat} {s : Int} (h : AgSt w0 w mb m d k s) (hf : Fr (fun _ => False) w w') : AgSt w0 w' mb m d k s :=
 ⟨h.n.old hf, h.mb, h.tl, h.f, h.en, h.s0, h.cn, h.len, h.win⟩
theorem ag_new {w0 : World} {mb : Nat} {m : MachD} {d : PartD} (hO : OneT w0 w mb m 1) (hd : findP m.L ⟨0, 0⟩ = some d) (hn : NewP d) {w' : World} (ha : MachA w' { m with next := m.next + 1 }) (hf : Fr (fun i => i = m.mb) w w') : AgSt w0 w' mb { m with next := m.next + 1 } d 0 0 := by
 refine ⟨⟨ha, hO.n.bs, hO.n.ts, hO.n.f.trans hf fun i hi => .inr (hO.n.bs i (.inl hi))⟩, hO.mb, hO.tl, hd, hn.en, ⟨by omega, by omega⟩, ?_, ?_, .inl ⟨rfl, ?_⟩⟩
 ·rw [hn.n]; omega
 ·rw [hn.bats]; exact Nat.le_refl _
 ·rw [hn.F]
def AgStep (w0 w : World) (mb : Nat) (m : MachD) (d : PartD) (k : Nat) (s sp : Int) (e : Ending) (w' : World) : Prop :=
 e = .returned (tellV 0 s) ∧ ∃ m' d', AgSt w0 w' mb m' d' (k + 1) (s + sp) ∧ (∃ l, d'.F 0 = some (0, l ++ [(s, s, sp)])) ∧ Fr d.T w w' ∧ (∀ i, m'.A i → m.A i ∨ w.heap.size ≤ i)
theorem ag_enc {sp s : Int} (hp : 1 ≤ sp ∧ sp ≤ 50) (hs : 0 ≤ s ∧ s ≤ 2000) (hst : StepsOK w) : EncIn w (prodR tS 0 (agB 0 sp s)) (.slice none 0 0) (.slice none 0 0) (.slice none 0 0) (fun _ => False) (textS ⟨#[0]⟩) (putS 0) true true :=
 enc_in (recs_nil w 0) (fun i h => h.elim) (ag_in hp hs).wf hst rfl rfl rfl
/-- Sent for the first time. -/
theorem ag_first {w0 : World} {mb : Nat} {m : MachD} {d : PartD} {k : Nat} {s : Int} (h : AgSt w0 w mb m d k s) (hst : StepsOK w0) (hk : k < 30) {sp : Int} (hp : 1 ≤ sp ∧ sp ≤ 50) :
  Calls Tryz.prog 12 #[.pointer (some ⟨mb, 0, none⟩), .agg (reqC (prodR tS 0 (agB 0 sp s)) (.slice none 0 0) (.slice none 0 0) (.slice none 0 0)), .int .i64 1] w (AgStep w0 w mb m d k s sp) := by
 have hm := findP_mem h.f
 have hs : 0 ≤ s ∧ s ≤ 2000 := ⟨h.s0.1, by have := h.s0.2; omega⟩
 have hin := ag_in hp hs
 have P := do_produce h.n.a (prodR tS 0 (agB 0 sp s)) _ _ _ _ _ _ true true (ag_enc hp hs (hst.old h.n.f)) (enc_top hin.wf) rfl h.find hm (by rw [h.en]; omega) (by have := h.cn; omega) (by have := h.len; omega) 1
 rw [h.mb, enc_yes hin] at P
 have hat : atB d (agB 0 sp s) = agB s sp s := by unfold atB agB; rw [h.en]
 have hok : BatOK (atB d (agB 0 sp s)) ∧ (batS (atB d (agB 0 sp s))).size ≤ 50000 := by
  rw [hat]; exact ⟨agB_ok hs hp hs, by have := agB_size hs hp hs; omega⟩
 have hchk : chkP d.F (atB d (agB 0 sp s)) = (0, false, 0) := by rw [hat]; exact ag_chk h.win hs hp hs
 refine P.mono ?_
 rintro e w' ⟨ee, cc, rfl, hc⟩
 rw [show (prodR tS 0 (agB 0 sp s)).bat = agB 0 sp s from rfl] at hc
 rcases hc with ⟨hh, -⟩ | ⟨-, -, x, ag, c, hx, ⟨hh, -⟩ | ⟨rfl, rfl, rfl, rfl, d', h1, h2, h3, h4, h5, h6, h8, h7⟩⟩
 ·rcases hh with hh | hh
  ·cases hh
  ·exact absurd hok hh
 ·have hx := hchk.symm.trans hx
  injection hx with e1 e2
  injection e2 with e2 e3
  subst e2 e3
  rcases hh with hh | hh
  ·exact absurd rfl hh
  ·cases hh
 ·obtain ⟨hl, hw⟩ := ag_note h.win hs hp hs
  rw [hat] at h4 h5
  refine ⟨by rw [h.en], _, d', ⟨h.n.set hm h1 h8 h7, h.mb, h.tl, ?_, by rw [h3, h.en]; rfl, ?_, by rw [h6]; have := h.cn; omega, by rw [h4, List.length_append]; have := h.len; simp; omega, by rw [h5]; exact hw⟩, by rw [h5]; exact hl, h7, ?_⟩
  ·show findP (setP m.L ⟨0, 0⟩ d') ⟨0, 0⟩ = some d'
   rw [findP_set h.f, if_pos rfl]
  ·have := h.s0; push_cast; omega
  ·rintro i (hi | ⟨y, hy, hi⟩)
   ·exact .inl (.inl hi)
   ·obtain ⟨z, hz, rfl⟩ := List.mem_map.1 hy
    by_cases e : z.1 = ⟨0, 0⟩
    ·rw [if_pos e] at hi
     exact (h8 i hi).imp (fun h => .inr ⟨_, hm, h⟩) id
    ·rw [if_neg e] at hi
     exact .inl (.inr ⟨z, hz, hi⟩)
/-- Sent again. -/
theorem ag_second {w0 : World} {mb : Nat} {m : MachD} {d : PartD} {k : Nat} {s sp : Int} (h : AgSt w0 w mb m d (k + 1) (s + sp)) (hl : ∃ l, d.F 0 = some (0, l ++ [(s, s, sp)])) (hst : StepsOK w0) (hk : k < 30) (hp : 1 ≤ sp ∧ sp ≤ 50) (hs : 0 ≤ s ∧ s ≤ 50 * k) :
  Calls Tryz.prog 12 #[.pointer (some ⟨mb, 0, none⟩), .agg (reqC (prodR tS 0 (agB 0 sp s)) (.slice none 0 0) (.slice none 0 0) (.slice none 0 0)), .int .i64 1] w fun e w' => e = .returned (tellV 0 s) ∧ AgSt w0 w' mb m d (k + 1) (s + sp) ∧ Fr (fun _ => False) w w' := by
 have hm := findP_mem h.f
 have hs : 0 ≤ s ∧ s ≤ 2000 := ⟨hs.1, by omega⟩
 have hin := ag_in hp hs
 have P := do_produce h.n.a (prodR tS 0 (agB 0 sp s)) _ _ _ _ _ _ true true (ag_enc hp hs (hst.old h.n.f)) (enc_top hin.wf) rfl h.find hm (by rw [h.en]; omega) (by have := h.cn; omega) (by have := h.len; omega) 1
 rw [h.mb, enc_yes hin] at P
 have hat : atB d (agB 0 sp s) = agB (s + sp) sp s := by unfold atB agB; rw [h.en]
 have hn : 0 ≤ s + sp ∧ s + sp ≤ 2000 := by have := h.s0; omega
 have hok : BatOK (atB d (agB 0 sp s)) ∧ (batS (atB d (agB 0 sp s))).size ≤ 50000 := by
  rw [hat]; exact ⟨agB_ok hn hp hs, by have := agB_size hn hp hs; omega⟩
 have hchk : chkP d.F (atB d (agB 0 sp s)) = (s, true, 0) := by rw [hat]; exact ag_twice hl hp hs
 refine P.mono ?_
 rintro e w' ⟨ee, cc, rfl, hc⟩
 rw [show (prodR tS 0 (agB 0 sp s)).bat = agB 0 sp s from rfl] at hc
 rcases hc with ⟨hh, -⟩ | ⟨-, -, x, ag, c, hx, ⟨-, rfl, hcc, ha, hf⟩ | ⟨rfl, rfl, -⟩⟩
 ·rcases hh with hh | hh
  ·cases hh
  ·exact absurd hok hh
 ·have hx := hchk.symm.trans hx
  injection hx with e1 e2
  injection e2 with e2 e3
  subst e1 e2 e3
  rw [hcc rfl]
  exact ⟨rfl, h.old hf, hf⟩
 ·have hx := hchk.symm.trans hx
  injection hx with e1 e2
  injection e2 with e2 e3
  cases e2
theorem ag_end {w0 : World} {mb : Nat} {m : MachD} {d : PartD} {k : Nat} {s : Int} (h : AgSt w0 w mb m d k s) : Calls Tryz.prog 16 #[.pointer (some ⟨mb, 0, none⟩), .string ⟨#[116]⟩, .int .i64 0] w fun e w' => e = .returned (.int .i64 s) ∧ Fr (fun _ => False) w w' := by
 have P := mend_walk h.n.a tS 0 (by decide) rfl
 rw [h.mb] at P
 refine P.mono ?_
 rintro e w' ⟨rfl, hf⟩
 refine ⟨?_, hf⟩
 have e1 : findM m tS 0 = some d := h.find
 unfold endM
 rw [e1]
 simp only [h.en]
/-- The producer's number. -/
theorem ag_id {w0 : World} {mb : Nat} {m : MachD} {d : PartD} (hO : OneT w0 w mb m 1) (hd : findP m.L ⟨0, 0⟩ = some d) (hn : NewP d) (hst : StepsOK w0) :
  Calls Tryz.prog 12 #[.pointer (some ⟨mb, 0, none⟩), plainV 14 ⟨#[]⟩ 0 0 0, .int .i64 1] w fun e w' => e = .returned (tellV 0 0) ∧ ∃ m', AgSt w0 w' mb m' d 0 0 := by
 have i1 := plain_in (kind := 14) (name := ⟨#[]⟩) (index := 0) (count := 0) (from' := 0) (by omega) (by decide) (by omega) (by omega) (by omega)
 obtain rfl := hO.mb
 have P := do_identify hO.n.a (plainR 14 ⟨#[]⟩ 0 0 0) (.slice none 0 0) (.slice none 0 0) (.slice none 0 0) _ _ _ true true (plain_enc i1 (hst.old hO.n.f)) (enc_top i1.wf) (enc_yes i1) rfl (by rw [hO.nx]; omega) 1
 refine P.mono ?_
 rintro e w' ⟨he, ha, hf⟩
 exact ⟨by rw [he, hO.nx], _, ag_new hO hd hn ha hf⟩
theorem IntsR.old {v : Value} {l : List Int} (h : IntsR w v l) (hf : Fr (fun _ => False) w w') : IntsR w' v l := by
 obtain ⟨oa, cap, rfl, h1⟩ := h
 refine ⟨oa, cap, rfl, fun k x hx => ?_⟩
 obtain ⟨a, e, hc⟩ := h1 k x hx
 exact ⟨a, e, hf.cel hc.1, hc.2⟩
end
end Go.Proofs.YtfdhofabgdkkkaaGreatDoor
