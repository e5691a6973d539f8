/- Walks of the searches. -/
import Derived.Test.YtdlnafhhkpklmaaGreatDoorY19
namespace Go.Proofs.YtdlnafhhkpklmaaGreatDoor
open Go.RowKit Go.Fm Go.BigFrame
set_option linter.unusedSimpArgs false
set_option linter.unusedVariables false
set_option maxHeartbeats 400000 in
/-- The test of Find. -/
theorem findTest (b g n cap k go gx : Nat) (o : Int) (eo ep : Nat) (w : World) (hx : w.cell? ⟨gx, 0, none⟩ = some (.pointer (some ⟨b, 0, none⟩))) (ho : w.cell? ⟨go, 0, none⟩ = some (.int .i64 o))
  (h1 : w.cell? ⟨b, 1, none⟩ = some (.slice (some ⟨g, 0, none⟩) n cap)) (hk : k < n) (hn : n ≤ 1000) (h2 : w.cell? ⟨g, k, none⟩ = some (spotV eo ep)) (heo : eo ≤ big) :
  Calls Tryz.prog 124 #[.int .i64 k, .pointer (some ⟨gx, 0, none⟩), .pointer (some ⟨go, 0, none⟩)] w fun e w' => e = .returned (.bool (decide (o < (eo : Int)))) ∧ ∃ m, w' = w.drewN m := by
 have hi1 : ((k : Int)).toNat = k := by omega
 have hi2 : (0 : Int) ≤ (k : Int) := by omega
 have hi3 : (k : Int) < (n : Int) := by omega
 by_cases hd : o < (eo : Int)
 ·have hd2 : decide (o < (eo : Int)) = true := by simpa using hd
  rw [hd2]
  go_enter Tryz.func124, Tryz.ntmps124
  go_wp2
  go_quiet ((go_at_call 125; exact Calls.quiet_of_same ((offset_any _ _ heo _).mono fun _ _ h => ⟨h.1, h.2.symm⟩)))
  go_wp2
  go_ret
  exact ⟨rfl, _, rfl⟩
 ·have hd2 : decide (o < (eo : Int)) = false := by simpa using hd
  rw [hd2]
  go_enter Tryz.func124, Tryz.ntmps124
  go_wp2
  go_quiet ((go_at_call 125; exact Calls.quiet_of_same ((offset_any _ _ heo _).mono fun _ _ h => ⟨h.1, h.2.symm⟩)))
  go_wp2
  go_ret
  exact ⟨rfl, _, rfl⟩
/-- What the search leaves: the first place of which q holds. -/
def SPost (n : Nat) (q : Nat → Bool) (w : World) (e : Ending) (w' : World) : Prop :=
 ∃ r m : Nat, e = .returned (.int .i64 r) ∧ w' = w.drewN m ∧ r ≤ n ∧ (∀ i, i < r → q i = false) ∧ ∀ i, r ≤ i → i < n → q i = true
set_option maxHeartbeats 400000 in
theorem search_any (n : Nat) (hn : n ≤ 1000) (f : Nat) (c1 c2 : Value) (hcf : ∀ args w, (callFunc f args).run Tryz.prog w = .ok (.enter f args) w) (q : Nat → Bool) (hmono : ∀ i j, i ≤ j → j < n → q i = true → q j = true) (w : World)
  (hf : ∀ m k, k < n → Calls Tryz.prog f #[.int .i64 k, c1, c2] (w.drewN m) fun e w' => e = .returned (.bool (q k)) ∧ ∃ m', w' = (w.drewN m).drewN m') :
  Calls Tryz.prog 123 #[.int .i64 n, .func (.func f) #[] #[c1, c2]] w (SPost n q w) := by
 go_enter Tryz.func123, Tryz.ntmps123
 go_wp2
 have HM := Lib.hid hmono
 have HF := Lib.hid hf
 clear hmono hf
 go_loopw [5, 6] (fun i j wr => ∃ a b m : Nat, i = .int .i64 a ∧ j = .int .i64 b ∧ a ≤ b ∧ b ≤ n ∧ Hid (∀ k, k < a → q k = false) ∧ Hid (∀ k, b ≤ k → k < n → q k = true) ∧ wr = w.drewN m) (fun i j _ => (intOf j - intOf i).toNat)
 case atStart => exact ⟨0, n, 0, rfl, rfl, Nat.zero_le _, Nat.le_refl _, fun k hk => absurd hk (by omega), fun k h1 h2 => absurd h2 (by omega), by simp [World.drewN]⟩
 case round =>
  obtain ⟨a, b, m, rfl, rfl, hab, hbn, HA, HB, rfl⟩ := hrel
  by_cases hlt : a < b
  ·obtain ⟨h, hh⟩ : ∃ h, h = (a + b) / 2 := ⟨_, rfl⟩
   have hh2 : ((a : Int) + b) / 2 = (h : Int) := by omega
   have hah : a ≤ h := by omega
   have hhb : h < b := by omega
   have HH := Lib.hid hh
   clear hh
   cases hq : q h with
   | true =>
    have HQ := Lib.hid hq
    have hc := HF.out m h (by omega)
    rw [hq] at hc
    have HC := Lib.hid hc
    clear hc hq
    go_wp2_with fail
    refine HC.out.mono ?_
    rintro e w' ⟨rfl, m', rfl⟩
    go_wp2_with fail
    go_roundw
    case rel => exact ⟨a, h, m + m', rfl, rfl, hah, by omega, HA, fun k h1 h2 => HM.out h k h1 h2 HQ.out, rfl⟩
    case measure => simp [intOf]; omega
   | false =>
    have HQ := Lib.hid hq
    have hc := HF.out m h (by omega)
    rw [hq] at hc
    have HC := Lib.hid hc
    clear hc hq
    go_wp2_with fail
    refine HC.out.mono ?_
    rintro e w' ⟨rfl, m', rfl⟩
    go_wp2_with fail
    go_roundw
    case rel =>
     refine ⟨h + 1, b, m + m', by go_num, rfl, by omega, hbn, fun k hk => ?_, HB, rfl⟩
     cases hqk : q k with
     | false => rfl
     | true => exact absurd (HM.out k h (by omega) (by omega) hqk) (by rw [HQ.out]; simp)
    case measure => simp [intOf]; omega
  ·obtain rfl : a = b := by omega
   go_wp2_with fail
   go_ret
   exact ⟨a, m, rfl, rfl, hbn, HA.out, HB.out⟩
theorem call_enter {f : FuncId} {fn : Func} {c : Code} (hf : Tryz.prog.funcs[f]? = some fn) (hname : (fn.name == "runtime.NumGoroutine") = false) (hb : fn.body = some c) (args : Array Value) (w : World) :
  (callFunc f args).run Tryz.prog w = .ok (.enter f args) w := by
 have h1 : fn.name ≠ "runtime.NumGoroutine" := by simpa using hname
 simp [callFunc, hf, h1, hb]
theorem call23 (args : Array Value) (w : World) : (callFunc 124 args).run Tryz.prog w = .ok (.enter 124 args) w := call_enter Tryz.func124 (by kernel_rfl) rfl args w
/-- The last of those that a test lets through, by definition. -/
def lastOf (p : E → Bool) (a : Nat) (l : List E) : Nat := l.foldl (fun a e => if p e then e.p else a) a
theorem lastOf_cut (p : E → Bool) : ∀ (l : List E) (a r : Nat), r ≤ l.length → (∀ i e, i < r → l[i]? = some e → p e = true) → (∀ i e, r ≤ i → l[i]? = some e → p e = false) →
  (r = 0 → lastOf p a l = a) ∧ ∀ k e, r = k + 1 → l[k]? = some e → lastOf p a l = e.p := by
 intro l
 induction l with
 | nil => intro a r hr _ _; exact ⟨fun _ => rfl, fun k e _ h => by simp at h⟩
 | cons x l ih =>
  intro a r hr h1 h2
  cases r with
  | zero =>
   have hx : p x = false := h2 0 x (Nat.le_refl _) rfl
   have := ih a 0 (Nat.zero_le _) (fun i e hi => absurd hi (by omega)) (fun i e _ he => h2 (i + 1) e (by omega) (by simpa using he))
   refine ⟨fun _ => ?_, fun k e h => absurd h (by omega)⟩
   have h3 := this.1 rfl
   simpa [lastOf, hx] using h3
  | succ r =>
   have hx : p x = true := h1 0 x (by omega) rfl
   have := ih x.p r (by simpa using hr) (fun i e hi he => h1 (i + 1) e (by omega) (by simpa using he)) (fun i e hi he => h2 (i + 1) e (by omega) (by simpa using he))
   refine ⟨fun h => absurd h (by omega), fun k e hk he => ?_⟩
   obtain rfl : k = r := by omega
   have e0 : lastOf p a (x :: l) = lastOf p x.p l := by simp [lastOf, hx]
   rw [e0]
   cases k with
   | zero =>
    simp at he
    subst he
    exact this.1 rfl
   | succ k => exact this.2 k e rfl (by simpa using he)
def Ix.find (x : Ix) (o : Int) : Nat := lastOf (fun e => decide ((e.o : Int) ≤ o)) 0 x.es
/-- The entries rise. -/
def rise (es : List E) : Prop := es.Pairwise fun a b => a.o < b.o ∧ a.p < b.p ∧ a.t ≤ b.t
theorem rise_get {es : List E} (h : rise es) {i j : Nat} {a b : E} (hij : i ≤ j) (ha : es[i]? = some a) (hb : es[j]? = some b) : a.o ≤ b.o ∧ a.t ≤ b.t := by
 rcases Nat.lt_or_ge i j with hl | hl
 ·have hi := (List.getElem?_eq_some_iff.1 ha)
  have hj := (List.getElem?_eq_some_iff.1 hb)
  have := List.pairwise_iff_getElem.1 h i j hi.1 hj.1 hl
  rw [hi.2, hj.2] at this
  omega
 ·obtain rfl : i = j := by omega
  rw [ha] at hb
  cases hb
  omega
end Go.Proofs.YtdlnafhhkpklmaaGreatDoor
/- Find and Seek. -/
namespace Go.Proofs.YtdlnafhhkpklmaaGreatDoor
open Go.RowKit Go.Fm Go.BigFrame
set_option linter.unusedSimpArgs false
set_option linter.unusedVariables false
set_option maxRecDepth 100000 in
theorem own_cells {w : World} {B : Nat} {e : TypeId} {n : Nat} {a : Option Addr} {cap : Nat} {xs : List Value} (h : w.ownsRow B e 1 (.slice a n cap) n xs) :
  (a = none ∧ n = 0) ∨ ∃ g, a = some ⟨g, 0, none⟩ ∧ ∀ k u, xs[k]? = some u → w.cell? ⟨g, k, none⟩ = some u := by
 obtain ⟨a', cap', hv, h1, h2⟩ := own_slice h
 injection hv with hv1 hv2 hv3
 subst hv1
 cases a with
 | none => exact .inl ⟨rfl, (h2 rfl).1⟩
 | some a =>
  obtain ⟨h3, h4⟩ := h1 a rfl
  refine .inr ⟨a.block, by rw [← h3], fun k u hu => ?_⟩
  have := h.cells h4 k u hu
  have hadd : (⟨a.block, 0, none⟩ : Addr).add k = ⟨a.block, k, none⟩ := by
   unfold Addr.add
   split
   ·rename_i h0; rw [h0]
   ·simp
  rw [hadd] at this
  exact this
set_option maxRecDepth 100000 in
theorem cut_exists (q : Nat → Bool) : ∀ n, (∀ i j, i ≤ j → j < n → q i = true → q j = true) → ∃ r : Nat, r ≤ n ∧ (∀ i, i < r → q i = false) ∧ ∀ i, r ≤ i → i < n → q i = true := by
 intro n
 induction n with
 | zero => intro _; exact ⟨0, Nat.le_refl _, fun i h => absurd h (by omega), fun i _ h => absurd h (by omega)⟩
 | succ n ih =>
  intro hm
  obtain ⟨r, hr, h1, h2⟩ := ih fun i j hij hj hi => hm i j hij (by omega) hi
  by_cases hrn : r < n
  ·refine ⟨r, by omega, h1, fun i hi hin => ?_⟩
   by_cases e : i = n
   ·subst e; exact hm r i hi (by omega) (h2 r (Nat.le_refl _) hrn)
   ·exact h2 i hi (by omega)
  ·obtain rfl : r = n := by omega
   cases hq : q r with
   | true =>
    refine ⟨r, by omega, h1, fun i hi hin => ?_⟩
    obtain rfl : i = r := by omega
    exact hq
   | false => exact ⟨r + 1, Nat.le_refl _, fun i hi => by
     by_cases e : i = r
     ·exact e ▸ hq
     ·exact h1 i (by omega), fun i hi hin => absurd hin (by omega)⟩
set_option maxRecDepth 100000 in
theorem cut_unique {q : Nat → Bool} {n r s : Nat} (hr : r ≤ n) (h1 : ∀ i, i < r → q i = false) (h2 : ∀ i, r ≤ i → i < n → q i = true) (hs : s ≤ n) (k1 : ∀ i, i < s → q i = false) (k2 : ∀ i, s ≤ i → i < n → q i = true) : r = s := by
 rcases Nat.lt_trichotomy r s with h | h | h
 ·have := h2 r (Nat.le_refl _) (by omega); rw [k1 r h] at this; cases this
 ·exact h
 ·have := k2 s (Nat.le_refl _) (by omega); rw [h1 s h] at this; cases this
set_option maxRecDepth 100000 in
set_option maxHeartbeats 1000000 in
theorem find_walk (b n cap : Nat) (a : Option Addr) (o : Int) (q : Nat → Bool) (res : Nat) (w : World) (hn : n ≤ 1000)
  (h1 : w.cell? ⟨b, 1, none⟩ = some (.slice a n cap))
  (hmono : ∀ i j, i ≤ j → j < n → q i = true → q j = true)
  (hq : ∀ k, k < n → ∃ g eo ep, a = some ⟨g, 0, none⟩ ∧ w.cell? ⟨g, k, none⟩ = some (spotV eo ep) ∧ eo ≤ big ∧ ep ≤ big ∧ q k = decide (o < (eo : Int)))
  (hres : ∀ r, r ≤ n → (∀ i, i < r → q i = false) → (∀ i, r ≤ i → i < n → q i = true) → (r = 0 → res = 0) ∧ ∀ k g eo ep, r = k + 1 → a = some ⟨g, 0, none⟩ → w.cell? ⟨g, k, none⟩ = some (spotV eo ep) → eo ≤ big → ep ≤ big → res = ep) :
  Calls Tryz.prog 92 #[.pointer (some ⟨b, 0, none⟩), .int .i64 o] w fun e w' => e = .returned (.int .i64 res) ∧ Fr (fun _ => False) w w' := by
 have hbl := World.block_lt_of_cell? w _ h1
 -- the two variables that the test holds
 obtain ⟨W, hW⟩ : ∃ W, W = (w.alloc (.cells #[.pointer (some ⟨b, 0, none⟩)] 136)).alloc (.cells #[.int .i64 o] 3) := ⟨_, rfl⟩
 have c1 : W.cell? ⟨b, 1, none⟩ = some (.slice a n cap) := by
  rw [hW, World.cell?_alloc_lt _ _ _ (by simp at hbl ⊢; omega), World.cell?_alloc_lt _ _ _ (by simpa using hbl)]; exact h1
 have cx : W.cell? ⟨w.heap.size, 0, none⟩ = some (.pointer (some ⟨b, 0, none⟩)) := by
  rw [hW, World.cell?_alloc_lt _ _ _ (by simp), cell_alloc_new]; rfl
 have co : W.cell? ⟨w.heap.size + 1, 0, none⟩ = some (.int .i64 o) := by
  have e : (w.alloc (.cells #[.pointer (some ⟨b, 0, none⟩)] 136)).heap.size = w.heap.size + 1 := by simp
  rw [hW, ← e, cell_alloc_new]; rfl
 have hFr : Fr (fun _ => False) w W := by rw [hW]; exact ((Fr.refl _ w).alloc _).alloc _
 have hcell : ∀ g k eo ep, w.cell? ⟨g, k, none⟩ = some (spotV eo ep) → W.cell? ⟨g, k, none⟩ = some (spotV eo ep) := fun g k eo ep h => hFr.cell h (fun h => h)
 have hS : ∀ m0, Calls Tryz.prog 123 #[.int .i64 n, .func (.func 124) #[] #[.pointer (some ⟨w.heap.size, 0, none⟩), .pointer (some ⟨w.heap.size + 1, 0, none⟩)]] (W.drewN m0) (SPost n q (W.drewN m0)) := by
  intro m0
  refine search_any n hn 124 _ _ call23 q hmono _ ?_
  intro m k hk
  obtain ⟨g, eo, ep, hg, hc, heo, hep, hqk⟩ := hq k hk
  rw [hqk]
  subst hg
  exact findTest b g n cap k (w.heap.size + 1) w.heap.size o eo ep ((W.drewN m0).drewN m) cx co c1 hk hn (hcell g k eo ep hc) heo
 -- the value that it comes to
 obtain ⟨r, hr, r1, r2⟩ := cut_exists q n hmono
 have hS2 : ∀ m0, Calls Tryz.prog 123 #[.int .i64 n, .func (.func 124) #[] #[.pointer (some ⟨w.heap.size, 0, none⟩), .pointer (some ⟨w.heap.size + 1, 0, none⟩)]] (W.drewN m0) fun e w' => e = .returned (.int .i64 r) ∧ ∃ m, w' = (W.drewN m0).drewN m := by
  intro m0
  refine (hS m0).mono ?_
  rintro e w' ⟨r', m, rfl, rfl, h3, h4, h5⟩
  rw [cut_unique h3 h4 h5 hr r1 r2]
  exact ⟨rfl, m, rfl⟩
 have hA : ∀ w', (∃ m, w' = W.drewN m) → Calls Tryz.prog 122 #[.pointer (some ⟨b, 0, none⟩), .int .i64 r] w' fun e w'' => e = .returned (.int .i64 res) ∧ w' = w'' := by
  rintro w' ⟨m, rfl⟩
  have hR := hres r hr r1 r2
  cases r with
  | zero => rw [hR.1 rfl]; exact ahead_zero _ _
  | succ k =>
   obtain ⟨g, eo, ep, hg, hc, heo, hep, hqk⟩ := hq k (by omega)
   rw [hR.2 k g eo ep rfl hg hc heo hep]
   subst hg
   exact ahead_some b g n cap k eo ep _ (by omega) hn c1 (hcell g k eo ep hc) hep
 have H2 := Lib.hid hS2
 have H3 := Lib.hid hA
 have HW := Lib.hid hW
 clear hS2 hA hS hq hres hmono r1 r2 hcell h1 hW
 go_enter Tryz.func92, Tryz.ntmps92
 go_wp2
 rw [← HW.out]
 clear HW
 go_quiet (first
  | (go_at_call 123; exact Calls.quiet_of (H2.out _))
  | (go_at_call 122; exact Calls.quiet_of_same ((H3.out _ ⟨_, rfl⟩).mono fun _ _ h => ⟨h.1, h.2.symm⟩)))
 go_wp2
 go_ret
 exact ⟨rfl, hFr.drewN _⟩
set_option maxRecDepth 100000 in
theorem spots_get {es : List E} {k : Nat} {e : E} (h : es[k]? = some e) : (spots es)[k]? = some (spotV e.o e.p) := by simp [spots, h]
set_option maxRecDepth 100000 in
theorem get_lt {es : List E} {k : Nat} (h : k < es.length) : ∃ e, es[k]? = some e := ⟨es[k], List.getElem?_eq_getElem h⟩
set_option maxRecDepth 100000 in
theorem lt_get {es : List E} {k : Nat} {e : E} (h : es[k]? = some e) : k < es.length := (List.getElem?_eq_some_iff.1 h).1
set_option maxRecDepth 100000 in
theorem rep_slices {B : Nat} {w : World} {b : Nat} {x : Ix} {S : Nat → Prop} (h : Ix.rep B w b x S) : ∃ sa sc ta tc, Ix.repV B w b x (.slice sa x.es.length sc) (.slice ta x.es.length tc) ∧ ∀ k, S k ↔ foot b (.slice sa x.es.length sc) (.slice ta x.es.length tc) k := by
 obtain ⟨sp, tm, h1, h2⟩ := h
 obtain ⟨sa, sc, rfl, -, -⟩ := own_slice h1.hs
 obtain ⟨ta, tc, rfl, -, -⟩ := own_slice h1.ht
 exact ⟨sa, sc, ta, tc, h1, h2⟩
set_option maxRecDepth 100000 in
theorem find_any {B : Nat} {w : World} {b : Nat} {x : Ix} {S : Nat → Prop} (h : Ix.rep B w b x S) (hok : x.ok) (hr : rise x.es) (hn : x.es.length ≤ 1000) (o : Int) :
  Calls Tryz.prog 92 #[.pointer (some ⟨b, 0, none⟩), .int .i64 o] w fun e w' => e = .returned (.int .i64 (x.find o)) ∧ Fr (fun _ => False) w w' := by
 obtain ⟨sa, sc, ta, tc, h1, -⟩ := rep_slices h
 have c1 : w.cell? ⟨b, 1, none⟩ = some (.slice sa x.es.length sc) := by simp [World.cell?, h1.hb, ixCells]
 let q : Nat → Bool := fun k => match x.es[k]? with | some e => decide (o < (e.o : Int)) | none => true
 have hq : ∀ k e, x.es[k]? = some e → q k = decide (o < (e.o : Int)) := fun k e he => by simp [q, he]
 have hcs := own_cells h1.hs
 have hcell : ∀ k e, x.es[k]? = some e → ∃ g, sa = some ⟨g, 0, none⟩ ∧ w.cell? ⟨g, k, none⟩ = some (spotV e.o e.p) := fun k e he => by
  rcases hcs with ⟨_, h0⟩ | ⟨g, hg, hc⟩
  ·have := lt_get he; omega
  ·exact ⟨g, hg, hc k _ (spots_get he)⟩
 refine find_walk b x.es.length sc sa o q (x.find o) w hn c1 ?_ ?_ ?_
 ·intro i j hij hj hqi
  obtain ⟨ei, hei⟩ := get_lt (show i < x.es.length by omega)
  obtain ⟨ej, hej⟩ := get_lt hj
  rw [hq i ei hei] at hqi
  rw [hq j ej hej]
  have := rise_get hr hij hei hej
  simp at hqi ⊢
  omega
 ·intro k hk
  obtain ⟨e, he⟩ := get_lt hk
  obtain ⟨g, hg, hc⟩ := hcell k e he
  have := hok.es e (List.mem_of_getElem? he)
  exact ⟨g, e.o, e.p, hg, hc, this.1, this.2.1, hq k e he⟩
 ·intro r hrn r1 r2
  have hcut := lastOf_cut (fun e => decide ((e.o : Int) ≤ o)) x.es 0 r hrn
   (fun i e hi he => by have := r1 i hi; rw [hq i e he] at this; simp at this ⊢; omega)
   (fun i e hi he => by have := r2 i hi (lt_get he); rw [hq i e he] at this; simp at this ⊢; omega)
  refine ⟨hcut.1, ?_⟩
  intro k g eo ep hk hg hc heo hep
  obtain ⟨e, he⟩ := get_lt (show k < x.es.length by omega)
  obtain ⟨g', hg', hc'⟩ := hcell k e he
  rw [hg] at hg'
  injection hg' with hg'
  injection hg' with hg' _ _
  subst hg'
  rw [hc] at hc'
  injection hc' with hc'
  injection hc' with _ _ hp
  have hpp : ep = e.p := by
   have h9 := near_back ep hep
   rw [hp, near_back e.p (hok.es e (List.mem_of_getElem? he)).2.1] at h9
   injection h9 with h9
   exact (Int.ofNat.inj h9).symm
  rw [hpp]
  exact hcut.2 k e hk he
end Go.Proofs.YtdlnafhhkpklmaaGreatDoor
