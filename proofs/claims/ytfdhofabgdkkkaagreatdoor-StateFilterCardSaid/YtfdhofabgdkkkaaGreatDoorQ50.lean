/- A machine: Do of what is no request. -/
import Derived.Test.YtfdhofabgdkkkaaGreatDoorQ49
import Derived.Test.YtfdhofabgdkkkaaGreatDoorQ39
import Derived.Test.YtfdhofabgdkkkaaGreatDoorQ28
namespace Go.Proofs.YtfdhofabgdkkkaaGreatDoor
open Go.RowKit Go.Fm Go.BigFrame Go.Shelf Go.Maps
set_option linter.unusedVariables false
set_option linter.unusedSimpArgs false
set_option maxRecDepth 100000
section
variable {w w' : World} {S : Nat → Prop}
set_option maxHeartbeats 64000000 in
theorem do_bad {m : MachD} (hM : MachA w m) (q : Req) (rv kv tv : Value) (K : Nat → Prop) (ft lt : ByteArray) (fok lok : Bool) (hE : EncIn w q rv kv tv K ft lt fok lok) (he : encOk q ft lt fok lok = false) (now : Int) :
  Calls Tryz.prog 12 #[.pointer (some ⟨m.mb, 0, none⟩), .agg (reqC q rv kv tv), .int .i64 now] w fun e w' => e = .returned (tellV 1 0) ∧ MachA w' m ∧ Fr (fun _ => False) w w' := by
 have f2 := ((Fr.same w).alloc (.cells #[.int .i64 q.kind, .string q.name, .int .i64 q.index, .int .i64 q.count, .int .i64 q.from', .bool q.flag, .int .i64 q.bat.base, .int .i64 q.bat.span, .int .i64 q.bat.prod, .int .i64 q.bat.epoch, .int .i64 q.bat.seq, rv, .int .i64 q.fop, .string q.fnm, .string q.fvl, kv, .string q.group, .int .i64 q.member, .int .i64 q.gen, tv] 41)).alloc (.cells #[.int .i64 0, .int .i64 0, .int .i64 0, .int .i64 0, .int .i64 0, .int .i64 0, .int .i64 0, .slice none 0 0, .slice none 0 0, .slice none 0 0] 31)
 have s1 : (w.alloc (.cells #[.int .i64 q.kind, .string q.name, .int .i64 q.index, .int .i64 q.count, .int .i64 q.from', .bool q.flag, .int .i64 q.bat.base, .int .i64 q.bat.span, .int .i64 q.bat.prod, .int .i64 q.bat.epoch, .int .i64 q.bat.seq, rv, .int .i64 q.fop, .string q.fnm, .string q.fvl, kv, .string q.group, .int .i64 q.member, .int .i64 q.gen, tv] 41)).heap.size = w.heap.size + 1 := by simp
 have x1 := heap_alloc_self (w.alloc (.cells #[.int .i64 q.kind, .string q.name, .int .i64 q.index, .int .i64 q.count, .int .i64 q.from', .bool q.flag, .int .i64 q.bat.base, .int .i64 q.bat.span, .int .i64 q.bat.prod, .int .i64 q.bat.epoch, .int .i64 q.bat.seq, rv, .int .i64 q.fop, .string q.fnm, .string q.fvl, kv, .string q.group, .int .i64 q.member, .int .i64 q.gen, tv] 41)) (.cells #[.int .i64 0, .int .i64 0, .int .i64 0, .int .i64 0, .int .i64 0, .int .i64 0, .int .i64 0, .slice none 0 0, .slice none 0 0, .slice none 0 0] 31)
 rw [s1] at x1
 have X1 := Lib.hid x1
 have xq := (heap_alloc_lt (.cells #[.int .i64 0, .int .i64 0, .int .i64 0, .int .i64 0, .int .i64 0, .int .i64 0, .int .i64 0, .slice none 0 0, .slice none 0 0, .slice none 0 0] 31) (lt_of_heap (heap_alloc_self w (.cells #[.int .i64 q.kind, .string q.name, .int .i64 q.index, .int .i64 q.count, .int .i64 q.from', .bool q.flag, .int .i64 q.bat.base, .int .i64 q.bat.span, .int .i64 q.bat.prod, .int .i64 q.bat.epoch, .int .i64 q.bat.seq, rv, .int .i64 q.fop, .string q.fnm, .string q.fvl, kv, .string q.group, .int .i64 q.member, .int .i64 q.gen, tv] 41)))).trans (heap_alloc_self w (.cells #[.int .i64 q.kind, .string q.name, .int .i64 q.index, .int .i64 q.count, .int .i64 q.from', .bool q.flag, .int .i64 q.bat.base, .int .i64 q.bat.span, .int .i64 q.bat.prod, .int .i64 q.bat.epoch, .int .i64 q.bat.seq, rv, .int .i64 q.fop, .string q.fnm, .string q.fvl, kv, .string q.group, .int .i64 q.member, .int .i64 q.gen, tv] 41))
 have XQ := Lib.hid xq
 have M2 := Lib.hid (hM.old f2)
 have LOW := Lib.hid hM.low
 have E2 := hE.keep f2
 have EN := Lib.hid E2
 have CW := Lib.hid (wencode_walk' q rv kv tv K ft lt fok lok E2)
 have F2 := Lib.hid f2
 have WF := Lib.hid hE.wf
 clear f2 s1 x1 hM hE E2
 unfold reqC at CW ⊢
 go_enter Tryz.func12, Tryz.ntmps12
 go_wp2_with (refine wpList_load_row rfl 41 _ rfl w.heap.size rfl 41 _ (0, 0) _ xq Tryz.underlying41 rfl (by kernel_rfl) ?_)
 clear xq
 generalize ((w.alloc (.cells #[.int .i64 q.kind, .string q.name, .int .i64 q.index, .int .i64 q.count, .int .i64 q.from', .bool q.flag, .int .i64 q.bat.base, .int .i64 q.bat.span, .int .i64 q.bat.prod, .int .i64 q.bat.epoch, .int .i64 q.bat.seq, rv, .int .i64 q.fop, .string q.fnm, .string q.fvl, kv, .string q.group, .int .i64 q.member, .int .i64 q.gen, tv] 41)).alloc (.cells #[.int .i64 0, .int .i64 0, .int .i64 0, .int .i64 0, .int .i64 0, .int .i64 0, .int .i64 0, .slice none 0 0, .slice none 0 0, .slice none 0 0] 31)) = w2 at *
 refine CW.out.mono ?_
 rintro e w3 ⟨rfl, hf3⟩
 rw [he]
 unfold encV
 simp only [if_false, Bool.false_eq_true]
 have M3 := Lib.hid (M2.out.old hf3)
 have X1 := Lib.hid ((hf3.block _ (lt_of_heap X1.out) fun h => h).trans X1.out)
 have F3 := Lib.hid (F2.out.tr hf3)
 clear hf3 CW M2 EN F2 XQ
 go_wp2_with fail
 refine (tells_bad 0 1 (by decide) w3).mono ?_
 rintro e w8 ⟨rfl, hf8⟩
 have X8 := (hf8.block _ (lt_of_heap X1.out) fun h => h).trans X1.out
 have fE := frRow (S := fun i => i = w.heap.size + 1) (Fr.refl _ w8) (.inl rfl) (repA 1 0 0 0 0 0 0 (.slice none 0 0) (.slice none 0 0) (.slice none 0 0))
 have MF := Lib.hid (show MachA _ m from (M3.out.old hf8).fr fE (fun i hi e => by have := LOW.out.1 i hi; omega) fun x hx i hi e => by have := LOW.out.2 x hx i hi; omega)
 have F9 := Lib.hid (frRow (F3.out.tr hf8) (g := w.heap.size + 1) (.inr (by omega)) (repA 1 0 0 0 0 0 0 (.slice none 0 0) (.slice none 0 0) (.slice none 0 0)))
 have R9 := setRow_heap w8 (w.heap.size + 1) _ (repA 1 0 0 0 0 0 0 (.slice none 0 0) (.slice none 0 0) (.slice none 0 0)) 31 (0, 0) X8
 clear hf8 fE
 go_wp2_with (refine wpList_store31 rfl _ _ rfl (w.heap.size + 1) 1 0 rfl rfl _ X8 rfl ?_)
 try simp only [Exit.inBlock, Exit.then]
 refine bodyPost_ret (results_cell_row rfl _ _ (w.heap.size + 1) 31 _ (0, 0) _ rfl R9 Tryz.underlying31 rfl (by kernel_rfl)) rfl ?_
 exact ⟨rfl, MF.out, F9.out⟩
end
end Go.Proofs.YtfdhofabgdkkkaaGreatDoor
/- A fetch with a filter, as a request. -/
namespace Go.Proofs.YtfdhofabgdkkkaaGreatDoor
open Go.RowKit Go.Fm Go.BigFrame Go.Shelf Go.Maps
set_option linter.unusedVariables false
set_option linter.unusedSimpArgs false
set_option maxRecDepth 100000
section
variable {w w' : World} {S : Nat → Prop} {K : Nat → Prop}
theorem exL_less {op : Int} {nm vl : ByteArray} {ks : Fst} (h : checkB op nm vl ks = true) : (exL op nm vl ks).length ≤ 58700 := by
 unfold checkB at h
 simp only [Bool.and_eq_true, decide_eq_true_eq] at h
 obtain ⟨h1, h2⟩ := h
 obtain ⟨h3, h4⟩ := part_fits h2
 have e := capF_sz ks 1 (by omega)
 have h5 := opL_len (fits_in h3)
 have h6 := exK_len ks _ h4
 have h7 := (fits_in h3).len0
 have h8 := (fits_in h3).ops
 unfold exL
 rw [List.length_append]
 by_cases hn : ks.len = 0
 ·rw [fst_nil hn] at h6 h5 ⊢
  simp only [Fst.sz] at h6
  omega
 ·have ho : ¬ (op = 0 ∨ 4 ≤ op) := fun h => hn (h7 h)
  have hl : (opL op nm vl ks.len).length ≤ 2 := by
   unfold opL
   rw [if_neg (show ¬ (op = 5 ∨ op = 6 ∨ op = 7) by omega)]
   split
   ·simp
   ·rw [if_neg (show ¬ (op = 4 ∨ op = 5) by omega)]; simp
  omega
theorem ftxt_less (op : Int) (nm vl : ByteArray) (ks : Fst) : (ftxt op nm vl ks).size ≤ 58700 := by
 unfold ftxt
 split
 ·rename_i h
  rw [exS_size]
  exact exL_less h
 ·exact Nat.zero_le _
theorem filOk_check (op : Int) (nm vl : ByteArray) (ks : Fst) : filOk op nm vl ks = checkB op nm vl ks := by
 unfold filOk okT
 have := ftxt_less op nm vl ks
 rw [decide_eq_true (by omega), Bool.and_true]
def filR (op : Int) (nm vl : ByteArray) : Req := ⟨5, tS, 0, 20000, 0, false, zeroB, op, nm, vl, ⟨#[]⟩, 0, 0⟩
theorem filR_in (op : Int) (nm vl : ByteArray) : ReqIn (filR op nm vl) := by
 have h := plain_in (kind := 5) (name := tS) (index := 0) (count := 20000) (from' := 0) (by decide) (by decide) (by decide) (by decide) (by decide)
 exact ⟨h.kind, h.index, h.count, h.from', h.member, h.gen, h.name, h.group, h.bat, h.size⟩
theorem fil_enc {op : Int} {nm vl : ByteArray} {ks : Fst} {kv : Value} (hk : KidR (fun i => i < w.heap.size) w kv ks) (hf : Fr (fun _ => False) w w') (hst : StepsOK w') :
  EncIn w' (filR op nm vl) (.slice none 0 0) kv (.slice none 0 0) (fun i => i < w.heap.size) (textS (ftxt op nm vl ks)) (topT []) (filOk op nm vl ks) (topOk []) :=
 ReqR.enc (q := filR op nm vl) (tl := []) ⟨⟨none, 0, rfl, fun _ _ h => by simp [filR, zeroB] at h⟩, hk, ⟨none, 0, rfl, Nat.zero_le _, fun _ _ h => by simp at h⟩, (filR_in op nm vl).wf⟩ hf hst
theorem fil_ok (op : Int) (nm vl : ByteArray) (ks : Fst) : encOk (filR op nm vl) (textS (ftxt op nm vl ks)) (topT []) (filOk op nm vl ks) (topOk []) = checkB op nm vl ks := by
 have hs := reqS_le (filR_in op nm vl).wf (textS (ftxt op nm vl ks)) (topT [])
 have h1 := ftxt_less op nm vl ks
 have h2 := textS_sizeX (s := ftxt op nm vl ks) (by omega)
 have h3 : (topT []).size ≤ 10 := by
  have := putS_size (n := 0) (by decide)
  have e : topT [] = putS 0 := by unfold topT; show putS 0 ++ ByteArray.empty = putS 0; simp
  rw [e]; exact this
 have h4 : (optT (filR op nm vl).bat).size = 0 := by rw [(optT_empty (b := (filR op nm vl).bat) rfl).1]; rfl
 have h5 : (filR op nm vl).name.size = 1 := rfl
 have h6 : (filR op nm vl).group.size = 0 := rfl
 have ho := (optT_empty (b := (filR op nm vl).bat) rfl).2
 unfold encOk
 rw [decide_eq_true (by omega), Bool.and_true, filOk_check]
 unfold reqB plB
 simp only [List.foldl_cons, List.foldl_nil, ho]
 cases checkB op nm vl ks
 ·simp
 ·rfl
end
end Go.Proofs.YtfdhofabgdkkkaaGreatDoor
/- The machine of StateFilter. -/
namespace Go.Proofs.YtfdhofabgdkkkaaGreatDoor
open Go.RowKit Go.Fm Go.BigFrame Go.Shelf Go.Maps
set_option linter.unusedVariables false
set_option linter.unusedSimpArgs false
set_option maxRecDepth 100000
section
variable {w w' : World} {S : Nat → Prop}
theorem fil_top {q : Req} {ft lt : ByteArray} {fok lok : Bool} (h : encOk q ft lt fok lok = true) : (reqS ByteArray.empty q ft lt).size ≤ 60000 := by
 unfold encOk at h
 simp only [Bool.and_eq_true, decide_eq_true_eq] at h
 exact h.2
structure FilSt (w0 w : World) (mb : Nat) (m : MachD) (d : PartD) (k : Nat) : Prop where
 o : OneT w0 w mb m 1
 f : findP m.L ⟨0, 0⟩ = some d
 st : d.st = 0
 en : 0 ≤ d.en ∧ d.en ≤ 50 * k
 ok : ∀ b ∈ d.bats, BatOK b
 n : d.n ≤ k
 len : d.bats.length ≤ k
theorem FilSt.old {w0 : World} {mb : Nat} {m : MachD} {d : PartD} {k : Nat} (h : FilSt w0 w mb m d k) (hf : Fr (fun _ => False) w w') : FilSt w0 w' mb m d k :=
 ⟨⟨h.o.n.old hf, h.o.mb, h.o.tl, h.o.nx⟩, h.f, h.st, h.en, h.ok, h.n, h.len⟩
theorem FilSt.more {w0 : World} {mb : Nat} {m : MachD} {d : PartD} {k : Nat} (h : FilSt w0 w mb m d k) : FilSt w0 w mb m d (k + 1) :=
 ⟨h.o, h.f, h.st, ⟨h.en.1, by have := h.en.2; push_cast; omega⟩, h.ok, by have := h.n; omega, by have := h.len; omega⟩
theorem fil_new {w0 : World} {mb : Nat} {m : MachD} {d : PartD} (hO : OneT w0 w mb m 1) (hd : findP m.L ⟨0, 0⟩ = some d) (hn : NewP d) : FilSt w0 w mb m d 0 := by
 refine ⟨hO, hd, hn.st, ⟨?_, ?_⟩, ?_, ?_, ?_⟩
 ·rw [hn.en]; omega
 ·rw [hn.en]; omega
 ·intro b hb; rw [hn.bats] at hb; cases hb
 ·rw [hn.n]; omega
 ·rw [hn.bats]; exact Nat.le_refl _
def FilStep (w0 w : World) (mb : Nat) (m : MachD) (d : PartD) (k : Nat) (b0 : Bat) (e : Ending) (w' : World) : Prop :=
 ∃ ee cc, e = .returned (tellV ee cc) ∧ ∃ m' d', FilSt w0 w' mb m' d' (k + 1) ∧ Fr d.T w w' ∧ (∀ i, m'.A i → m.A i ∨ w.heap.size ≤ i)
/-- Any batch, produced: taken at the log's end, or not. -/
theorem fil_prod {w0 : World} {mb : Nat} {m : MachD} {d : PartD} {k : Nat} (h : FilSt w0 w mb m d k) (hst : StepsOK w0) (hk : k < 100) (b : Bat) (rv : Value) (hr : RecsR (fun i => i < w.heap.size) w rv b.recs) :
  Calls Tryz.prog 12 #[.pointer (some ⟨mb, 0, none⟩), .agg (reqC (prodR tS 0 b) rv (.slice none 0 0) (.slice none 0 0)), .int .i64 1] w (FilStep w0 w mb m d k b) := by
 have hm := findP_mem h.f
 have hbs : (optT b).size ≤ 60008 := by
  unfold optT
  split
  ·decide
  ·split
   ·rename_i hb; exact batS_top hb
   ·decide
 have hwf : ReqWf (prodR tS 0 b) := ⟨rfl, rfl, rfl, rfl, rfl, rfl, (show tS.size ≤ 200000000000000 by decide), Nat.zero_le _, hbs⟩
 have P := do_produce h.o.n.a (prodR tS 0 b) rv _ _ _ _ _ true true (enc_in hr (fun i h => h) hwf (hst.old h.o.n.f) rfl rfl rfl) (enc_top hwf) rfl ((h.o.find 0).trans h.f) hm (by have := h.en; omega) (by have := h.n; omega) (by have := h.len; omega) 1
 rw [h.o.mb] at P
 refine P.mono ?_
 rintro e w' ⟨ee, cc, rfl, hc⟩
 have hpr : (prodR tS 0 b).bat = b := rfl
 rw [hpr] at hc
 refine ⟨ee, cc, rfl, ?_⟩
 have keep : MachA w' m → Fr (fun _ => False) w w' → FilSt w0 w' mb m d (k + 1) := fun ha hf => (h.old hf).more
 rcases hc with ⟨-, rfl, rfl, ha, hf⟩ | ⟨-, ⟨hok, hsz⟩, x, ag, c, hx, ⟨hca, rfl, hcc, ha, hf⟩ | ⟨rfl, rfl, rfl, rfl, d', h1, h2, h3, h4, h5, h6, h8, h7⟩⟩
 ·exact ⟨m, d, keep ha hf, hf.mono fun _ h => h.elim, fun i h => .inl h⟩
 ·exact ⟨m, d, keep ha hf, hf.mono fun _ h => h.elim, fun i h => .inl h⟩
 ·have hs0 : 1 ≤ b.span := hok.span0
  have hs1 : b.span ≤ 50 := hok.span1
  refine ⟨_, d', ⟨⟨h.o.n.set hm h1 h8 h7, h.o.mb, h.o.tl, h.o.nx⟩, ?_, by rw [h2, h.st], ?_, ?_, by rw [h6]; have := h.n; omega, by rw [h4, List.length_append]; have := h.len; simp; omega⟩, h7, ?_⟩
  ·show findP (setP m.L ⟨0, 0⟩ d') ⟨0, 0⟩ = some d'
   rw [findP_set h.f, if_pos rfl]
  ·rw [h3]; have := h.en; push_cast; omega
  ·intro y hy
   rw [h4] at hy
   rcases List.mem_append.1 hy with hy | hy
   ·exact h.ok y hy
   ·obtain rfl := List.mem_singleton.1 hy; exact hok
  ·rintro i (hi | ⟨y, hy, hi⟩)
   ·exact .inl (.inl hi)
   ·obtain ⟨z, hz, rfl⟩ := List.mem_map.1 hy
    by_cases e : z.1 = ⟨0, 0⟩
    ·rw [if_pos e] at hi
     exact (h8 i hi).imp (fun h => .inr ⟨_, hm, h⟩) id
    ·rw [if_neg e] at hi
     exact .inl (.inr ⟨z, hz, hi⟩)
/-- What is fetched without a filter. -/
theorem fil_plain {w0 : World} {mb : Nat} {m : MachD} {d : PartD} {k : Nat} (h : FilSt w0 w mb m d k) (hst : StepsOK w0) (hk : k ≤ 100) :
  Calls Tryz.prog 12 #[.pointer (some ⟨mb, 0, none⟩), plainV 5 tS 0 20000 0, .int .i64 1] w fun e w' => ∃ bv, e = .returned (.agg (repA 0 0 0 d.en 0 0 0 bv (.slice none 0 0) (.slice none 0 0))) ∧ BatsR (fun i => w.heap.size ≤ i) w' bv (fetchF 0 20000 d.bats 0 []) ∧ FilSt w0 w' mb m d k ∧ Fr (fun _ => False) w w' := by
 have hm := findP_mem h.f
 have i1 := plain_in (kind := 5) (name := tS) (index := 0) (count := 20000) (from' := 0) (by omega) (by decide) (by omega) (by omega) (by omega)
 have P := do_fetch h.o.n.a (plainR 5 tS 0 20000 0) (.slice none 0 0) (.slice none 0 0) _ _ _ true true (plain_enc i1 (hst.old h.o.n.f)) (enc_top i1.wf) (enc_yes i1) rfl ((h.o.find 0).trans h.f) hm h.ok (by have := h.len; omega) rfl rfl rfl 1
 rw [h.o.mb] at P
 refine P.mono ?_
 rintro e w' ⟨hp, ha⟩
 have hfr := fetch_fr hp
 rcases hp with ⟨h1, -⟩ | ⟨h1, bv, rfl, hb, -⟩
 ·exact absurd ⟨by rw [h.st]; exact Int.le_refl _, h.en.1⟩ h1
 ·exact ⟨bv, by rw [h.st], hb, h.old hfr, hfr⟩
/-- What is fetched with one. -/
def FilGot (w0 w : World) (mb : Nat) (m : MachD) (d : PartD) (k : Nat) (ok : Bool) (f : Rec → Bool) (e : Ending) (w' : World) : Prop :=
 ((ok = false ∧ e = .returned (tellV 1 0)) ∨ (ok = true ∧ ∃ bv, e = .returned (.agg (repA 0 0 0 d.en 0 0 0 bv (.slice none 0 0) (.slice none 0 0))) ∧ BatsR (fun i => w.heap.size ≤ i) w' bv ((fetchF 0 20000 d.bats 0 []).map (pickB f)))) ∧ FilSt w0 w' mb m d k ∧ Fr (fun _ => False) w w'
theorem fil_fetch {w0 : World} {mb : Nat} {m : MachD} {d : PartD} {k : Nat} (h : FilSt w0 w mb m d k) (hst : StepsOK w0) (hk : k ≤ 100) (op : Int) (nm vl : ByteArray) (ks : Fst) (oe : Option Addr) (ce : Nat) (hkid : KidR (fun i => i < w0.heap.size) w0 (.slice oe ks.len ce) ks) (hcw : hasCw w0) :
  Calls Tryz.prog 12 #[.pointer (some ⟨mb, 0, none⟩), .agg (reqC (filR op nm vl) (.slice none 0 0) (.slice oe ks.len ce) (.slice none 0 0)), .int .i64 1] w (FilGot w0 w mb m d k (checkB op nm vl ks) (letB hasWF op nm vl ks)) := by
 have hm := findP_mem h.f
 have hE := fil_enc (op := op) (nm := nm) (vl := vl) hkid h.o.n.f (hst.old h.o.n.f)
 have hok := fil_ok op nm vl ks
 cases hc : checkB op nm vl ks with
 | false =>
  rw [hc] at hok
  have P := do_bad h.o.n.a (filR op nm vl) _ _ _ _ _ _ _ _ hE hok 1
  rw [h.o.mb] at P
  refine P.mono ?_
  rintro e w' ⟨rfl, ha, hf⟩
  exact ⟨.inl ⟨rfl, rfl⟩, h.old hf, hf⟩
 | true =>
  rw [hc] at hok
  have P := do_fetch_any h.o.n.a (filR op nm vl) (.slice none 0 0) (.slice none 0 0) (fun i => i < w0.heap.size) ks oe ce (hkid.old h.o.n.f) (fun i hi => Nat.lt_of_lt_of_le hi h.o.n.f.size) hc (hasCw_fr _ _ hcw h.o.n.f) _ _ _ _ _ hE (Nat.le_trans (fil_top hok) (by decide)) hok rfl ((h.o.find 0).trans h.f) hm h.ok (by have := h.len; omega) 1
  rw [h.o.mb] at P
  refine P.mono ?_
  rintro e w' ⟨hp, ha⟩
  have hfr := fetch_frA hp
  rcases hp with ⟨h1, -⟩ | ⟨h1, bv, rfl, hb, -⟩
  ·exact absurd ⟨by rw [h.st]; exact Int.le_refl _, h.en.1⟩ h1
  ·exact ⟨.inr ⟨rfl, bv, by rw [h.st], hb⟩, h.old hfr, hfr⟩
end
end Go.Proofs.YtfdhofabgdkkkaaGreatDoor
/- What is fetched was there. -/
namespace Go.Proofs.YtfdhofabgdkkkaaGreatDoor
open Go.RowKit Go.Fm Go.BigFrame Go.Shelf Go.Maps
set_option linter.unusedVariables false
set_option linter.unusedSimpArgs false
set_option maxRecDepth 100000
section
theorem fetchF_mem {a c : Int} : ∀ (l : List Bat) (n : Nat) (acc : List Bat) (b : Bat), b ∈ fetchF a c l n acc → b ∈ acc ∨ b ∈ l
 | [], n, acc, b, h => .inl h
 | x :: l, n, acc, b, h => by
  rw [fetchF] at h
  split at h
  ·exact (fetchF_mem l n acc b h).imp id (List.mem_cons_of_mem _)
  ·split at h
   ·exact .inl h
   ·rcases fetchF_mem l _ _ b h with h | h
    ·exact (List.mem_append.1 h).imp id fun h => by rw [List.mem_singleton.1 h]; exact List.mem_cons_self
    ·exact .inr (List.mem_cons_of_mem _ h)
end
end Go.Proofs.YtfdhofabgdkkkaaGreatDoor
/- The document's copies of records and batches: the walks. -/
namespace Go.Proofs.YtfdhofabgdkkkaaGreatDoor
open Go.RowKit Go.Fm Go.BigFrame
set_option linter.unusedVariables false
set_option linter.unusedSimpArgs false
set_option maxRecDepth 100000
end Go.Proofs.YtfdhofabgdkkkaaGreatDoor
