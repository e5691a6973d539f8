/- A machine: Do of a fetch with any filter. -/
import Derived.Test.YtfdhofabgdkkkaaGreatDoorQ48
namespace Go.Proofs.YtfdhofabgdkkkaaGreatDoor
open Go.RowKit Go.Fm Go.BigFrame Go.Shelf Go.Maps
set_option linter.unusedVariables false
set_option linter.unusedSimpArgs false
set_option maxRecDepth 100000
section
variable {w w' : World} {S : Nat → Prop}
def DoFetchA (f : Rec → Bool) (w : World) (m : MachD) (d : PartD) (at' cnt : Int) (e : Ending) (w' : World) : Prop :=
 FetchPostA f w d at' cnt e w' ∧ MachA w' m
theorem fetch_tellA {f : Rec → Bool} {d : PartD} {a c : Int} {e : Ending} (h : FetchPostA f w d a c e w') : ∃ ee st en bv, e = .returned (.agg (repA ee 0 st en 0 0 0 bv (.slice none 0 0) (.slice none 0 0))) ∧ bv.oneCell' = true := by
 rcases h with ⟨-, rfl, -⟩ | ⟨-, bv, rfl, hb, -⟩
 ·exact ⟨12, 0, 0, _, rfl, rfl⟩
 ·obtain ⟨oa, cap, rfl, -⟩ := hb
  exact ⟨_, _, _, _, rfl, rfl⟩
theorem fetch_frA {f : Rec → Bool} {d : PartD} {a c : Int} {e : Ending} (h : FetchPostA f w d a c e w') : Fr (fun _ => False) w w' := by
 rcases h with ⟨-, -, h⟩ | ⟨-, bv, -, -, h⟩
 ·exact h
 ·exact h
theorem fetch_onA {f : Rec → Bool} {w0 w1 w2 w3 : World} {d : PartD} {a c : Int} {e : Ending} (h : FetchPostA f w1 d a c e w2) (hf : Fr (fun _ => False) w0 w1) (S : Nat → Prop) (hS : ∀ i, S i → w0.heap.size ≤ i ∧ i < w1.heap.size) (hg : Fr S w2 w3) : FetchPostA f w0 d a c e w3 := by
 rcases h with ⟨h1, h2, h⟩ | ⟨h1, bv, h2, hb, h⟩
 ·exact .inl ⟨h1, h2, (hf.tr h).trans hg fun i hi => .inr (hS i hi).1⟩
 ·refine .inr ⟨h1, bv, h2, (hb.fr hg fun k hk hs => ?_).mono fun k hk _ => Nat.le_trans hf.size hk, (hf.tr h).trans hg fun i hi => .inr (hS i hi).1⟩
  have := (hS k hs).2
  have hk : w1.heap.size ≤ k := hk
  omega
set_option maxHeartbeats 64000000 in
theorem do_fetch_any {m : MachD} (hM : MachA w m) (q : Req) (rv tv : Value) (K1 : Nat → Prop) (ks : Fst) (oe : Option Addr) (ce : Nat) (hkid : KidR K1 w (.slice oe ks.len ce) ks) (hkb : ∀ i, K1 i → i < w.heap.size) (hck : checkB q.fop q.fnm q.fvl ks = true) (hcw : hasCw w) (K : Nat → Prop) (ft lt : ByteArray) (fok lok : Bool) (hE : EncIn w q rv (.slice oe ks.len ce) tv K ft lt fok lok) (hsz : (reqS ByteArray.empty q ft lt).size ≤ 2000000000000000) (he : encOk q ft lt fok lok = true) (hk : q.kind = 5)
  {d : PartD} (hd : findM m q.name q.index = some d) {p : Place} (hp : (p, d) ∈ m.L) (hb : ∀ b ∈ d.bats, BatOK b) (hl : d.bats.length ≤ 100000) (now : Int) :
  Calls Tryz.prog 12 #[.pointer (some ⟨m.mb, 0, none⟩), .agg (reqC q rv (.slice oe ks.len ce) tv), .int .i64 now] w (DoFetchA (letB hasWF q.fop q.fnm q.fvl ks) w m d q.from' q.count) := by
 have KW0 := Lib.hid hkid
 clear hkid
 obtain ⟨kv, hkv⟩ : ∃ kv : Value, kv = .slice oe ks.len ce := ⟨_, rfl⟩
 rw [← hkv] at hE ⊢
 have HKV := Lib.hid hkv
 clear hkv
 have HW0 := Lib.hid hkb
 have HX0 := Lib.hid hck
 have CW0 := Lib.hid hcw
 clear hkb hck hcw
 have f2 := ((Fr.same w).alloc (.cells #[.int .i64 5, .string q.name, .int .i64 q.index, .int .i64 q.count, .int .i64 q.from', .bool q.flag, .int .i64 q.bat.base, .int .i64 q.bat.span, .int .i64 q.bat.prod, .int .i64 q.bat.epoch, .int .i64 q.bat.seq, rv, .int .i64 q.fop, .string q.fnm, .string q.fvl, kv, .string q.group, .int .i64 q.member, .int .i64 q.gen, tv] 41)).alloc (.cells #[.int .i64 0, .int .i64 0, .int .i64 0, .int .i64 0, .int .i64 0, .int .i64 0, .int .i64 0, .slice none 0 0, .slice none 0 0, .slice none 0 0] 31)
 have s1 : (w.alloc (.cells #[.int .i64 5, .string q.name, .int .i64 q.index, .int .i64 q.count, .int .i64 q.from', .bool q.flag, .int .i64 q.bat.base, .int .i64 q.bat.span, .int .i64 q.bat.prod, .int .i64 q.bat.epoch, .int .i64 q.bat.seq, rv, .int .i64 q.fop, .string q.fnm, .string q.fvl, kv, .string q.group, .int .i64 q.member, .int .i64 q.gen, tv] 41)).heap.size = w.heap.size + 1 := by simp
 have x1 := heap_alloc_self (w.alloc (.cells #[.int .i64 5, .string q.name, .int .i64 q.index, .int .i64 q.count, .int .i64 q.from', .bool q.flag, .int .i64 q.bat.base, .int .i64 q.bat.span, .int .i64 q.bat.prod, .int .i64 q.bat.epoch, .int .i64 q.bat.seq, rv, .int .i64 q.fop, .string q.fnm, .string q.fvl, kv, .string q.group, .int .i64 q.member, .int .i64 q.gen, tv] 41)) (.cells #[.int .i64 0, .int .i64 0, .int .i64 0, .int .i64 0, .int .i64 0, .int .i64 0, .int .i64 0, .slice none 0 0, .slice none 0 0, .slice none 0 0] 31)
 rw [s1] at x1
 have X1 := Lib.hid x1
 have xq := (heap_alloc_lt (.cells #[.int .i64 0, .int .i64 0, .int .i64 0, .int .i64 0, .int .i64 0, .int .i64 0, .int .i64 0, .slice none 0 0, .slice none 0 0, .slice none 0 0] 31) (lt_of_heap (heap_alloc_self w (.cells #[.int .i64 5, .string q.name, .int .i64 q.index, .int .i64 q.count, .int .i64 q.from', .bool q.flag, .int .i64 q.bat.base, .int .i64 q.bat.span, .int .i64 q.bat.prod, .int .i64 q.bat.epoch, .int .i64 q.bat.seq, rv, .int .i64 q.fop, .string q.fnm, .string q.fvl, kv, .string q.group, .int .i64 q.member, .int .i64 q.gen, tv] 41)))).trans (heap_alloc_self w (.cells #[.int .i64 5, .string q.name, .int .i64 q.index, .int .i64 q.count, .int .i64 q.from', .bool q.flag, .int .i64 q.bat.base, .int .i64 q.bat.span, .int .i64 q.bat.prod, .int .i64 q.bat.epoch, .int .i64 q.bat.seq, rv, .int .i64 q.fop, .string q.fnm, .string q.fvl, kv, .string q.group, .int .i64 q.member, .int .i64 q.gen, tv] 41))
 have XQ := Lib.hid xq
 have M2 := Lib.hid (hM.old f2)
 have LOW := Lib.hid hM.low
 have E2 := hE.keep f2
 have EN := Lib.hid E2
 have CW := Lib.hid (wencode_walk q rv kv tv K ft lt fok lok E2 hsz)
 have F2 := Lib.hid f2
 have WF := Lib.hid hE.wf
 clear f2 s1 x1 hM hE E2 hsz
 unfold reqC at CW ⊢
 rw [hk] at CW ⊢
 go_enter Tryz.func12, Tryz.ntmps12
 go_wp2_with (refine wpList_load_row rfl 41 _ rfl w.heap.size rfl 41 _ (0, 0) _ xq Tryz.underlying41 rfl (by kernel_rfl) ?_)
 clear xq
 generalize ((w.alloc (.cells #[.int .i64 5, .string q.name, .int .i64 q.index, .int .i64 q.count, .int .i64 q.from', .bool q.flag, .int .i64 q.bat.base, .int .i64 q.bat.span, .int .i64 q.bat.prod, .int .i64 q.bat.epoch, .int .i64 q.bat.seq, rv, .int .i64 q.fop, .string q.fnm, .string q.fvl, kv, .string q.group, .int .i64 q.member, .int .i64 q.gen, tv] 41)).alloc (.cells #[.int .i64 0, .int .i64 0, .int .i64 0, .int .i64 0, .int .i64 0, .int .i64 0, .int .i64 0, .slice none 0 0, .slice none 0 0, .slice none 0 0] 31)) = w2 at *
 refine CW.out.mono ?_
 rintro e w3 ⟨rfl, hf3⟩
 have M3 := Lib.hid (M2.out.old hf3)
 have E3 := Lib.hid (EN.out.keep hf3)
 have X1 := Lib.hid ((hf3.block _ (lt_of_heap X1.out) fun h => h).trans X1.out)
 have XQ := Lib.hid ((hf3.block _ (lt_of_heap XQ.out) fun h => h).trans XQ.out)
 have F3 := Lib.hid (F2.out.tr hf3)
 have LR := Lib.hid (lt_of_heap X1.out)
 clear hf3 CW M2 EN F2
 have henc : ∃ b, b = encOk q ft lt fok lok := ⟨_, rfl⟩
 obtain ⟨enc, henc⟩ := henc
 rw [← henc]
 have HENC := Lib.hid henc
 clear henc
 cases enc
 ·exact absurd (HENC.out.trans he) (by decide)
 ·unfold encV
  simp only [if_true]
  have FW := Lib.hid (mfind_walk M3.out q.name q.index (by have := WF.out.name; unfold maxLen; omega) WF.out.index)
  rw [hd] at FW
  unfold pptr at FW
  have dq := fun j => cell_of XQ.out j
  go_wp2_with fail
  refine FW.out.mono ?_
  rintro e w4 ⟨rfl, hf4⟩
  have M4 := Lib.hid (M3.out.old hf4)
  have E4 := Lib.hid (E3.out.keep hf4)
  have X1 := Lib.hid ((hf4.block _ (lt_of_heap X1.out) fun h => h).trans X1.out)
  have XQ := Lib.hid ((hf4.block _ (lt_of_heap XQ.out) fun h => h).trans XQ.out)
  have F4 := Lib.hid (F3.out.tr hf4)
  clear hf4 FW M3 E3 F3 dq
  have dq := fun j => cell_of XQ.out j
  have hmm := @run_makeMap Tryz.prog
  obtain ⟨w6, w7, w8, w9, r6, r7, r8, r9, l4, l5, f6, f7, f8, f9⟩ := four w4 d.xb
  have XQ9 := (f9.block _ (lt_of_heap XQ.out) fun h => h).trans XQ.out
  have q9 := cell_of XQ9 0
  have q6 := cell_of ((f8.block _ (lt_of_heap XQ.out) fun h => h).trans XQ.out) 0
  have F9 := Lib.hid f9
  have E9 := Lib.hid (E4.out.keep f9)
  have M9 := Lib.hid (M4.out.old f9)
  clear f6 f7 f8 f9 l4
  go_wp2_with (refine wpList_load_row rfl 41 _ rfl w.heap.size rfl 41 _ (0, 0) _ XQ9 Tryz.underlying41 rfl (by kernel_rfl) ?_)
  have PW := Lib.hid (fetch_any (M9.out.part _ hp) hb hl q rv tv K1 ks oe ce (KW0.out.old (F4.out.tr F9.out)) (fun i hi => Nat.lt_of_lt_of_le (HW0.out i hi) (F4.out.tr F9.out).size) HX0.out (hasCw_fr _ _ CW0.out (F4.out.tr F9.out)) E9.out.steps)
  unfold reqC at PW
  rw [hk, ← HKV.out] at PW
  refine PW.out.mono ?_
  rintro e w10 hpp
  have hfr := fetch_frA hpp
  obtain ⟨ee, st', en', bv', rfl, hbv⟩ := fetch_tellA hpp
  have X9 := (F9.out.block _ (lt_of_heap X1.out) fun h => h).trans X1.out
  have X10 := (hfr.block _ (lt_of_heap X9) (fun h => h)).trans X9
  have RBL := lt_of_heap X9
  have R10 := setRow_heap w10 (w.heap.size + 1) _ (repA ee 0 st' en' 0 0 0 bv' (.slice none 0 0) (.slice none 0 0)) 31 (0, 0) X10
  have fE := frRow (S := fun i => i = w.heap.size + 1) (Fr.refl _ w10) (.inl rfl) (repA ee 0 st' en' 0 0 0 bv' (.slice none 0 0) (.slice none 0 0))
  have FIN := Lib.hid (show DoFetchA (letB hasWF q.fop q.fnm q.fvl ks) w m d q.from' q.count _ _ from ⟨fetch_onA hpp (F4.out.tr F9.out) (fun i => i = w.heap.size + 1) (fun i e => ⟨by omega, by omega⟩) fE, (M9.out.old hfr).fr fE (fun i hi e => by have := LOW.out.1 i hi; omega) fun x hx i hi e => by have := LOW.out.2 x hx i hi; omega⟩)
  clear hpp hfr PW X9 XQ9 q9 q6 r6 r7 r8 r9 l5 hmm dq fE RBL
  go_wp2_with (refine wpList_store31g rfl _ _ rfl (w.heap.size + 1) ee 0 st' en' bv' hbv rfl rfl _ X10 rfl ?_)
  try simp only [Exit.inBlock, Exit.then]
  refine bodyPost_ret (results_cell_row rfl _ _ (w.heap.size + 1) 31 _ (0, 0) _ rfl R10 Tryz.underlying31 rfl (by kernel_rfl)) rfl ?_
  exact FIN.out
end
end Go.Proofs.YtfdhofabgdkkkaaGreatDoor
