/- Filters of any make: how they stand in memory; how many parts one has. -/
import Derived.Test.YtfdhofabgdkkkaaGreatDoorQ35
namespace Go.Proofs.YtfdhofabgdkkkaaGreatDoor
open Go.RowKit Go.Fm Go.BigFrame Go.Shelf Go.Maps
set_option linter.unusedVariables false
set_option linter.unusedSimpArgs false
set_option maxRecDepth 100000
/-- Filters side by side: Op, Name, Value, Kids, and those that follow. -/
inductive Fst where
 | nil : Fst
 | cons (op : Int) (nm vl : ByteArray) (ks rest : Fst) : Fst
def Fst.len : Fst → Nat
 | .nil => 0
 | .cons _ _ _ _ r => r.len + 1
def Fst.sz : Fst → Nat
 | .nil => 0
 | .cons _ _ _ ks r => ks.sz + r.sz + 1
def Fst.drop : Fst → Nat → Fst
 | F, 0 => F
 | .nil, _ + 1 => .nil
 | .cons _ _ _ _ r, k + 1 => r.drop k
theorem Fst.drop_nil : ∀ k, Fst.nil.drop k = .nil
 | 0 => rfl
 | _ + 1 => rfl
theorem Fst.drop_zero : ∀ (F : Fst), F.drop 0 = F
 | .nil => rfl
 | .cons _ _ _ _ _ => rfl
theorem Fst.drop_end : ∀ (F : Fst), F.drop F.len = .nil
 | .nil => rfl
 | .cons _ _ _ _ r => r.drop_end
theorem Fst.drop_at : ∀ (F : Fst) (k : Nat), k < F.len → ∃ op nm vl ks, F.drop k = .cons op nm vl ks (F.drop (k + 1)) ∧ ks.sz < F.sz
 | .nil, k, h => by simp [Fst.len] at h
 | .cons op nm vl ks r, 0, h => by
  refine ⟨op, nm, vl, ks, ?_, by simp [Fst.sz]; omega⟩
  cases r <;> rfl
 | .cons op nm vl ks r, k + 1, h => by
  obtain ⟨op', nm', vl', ks', h1, h2⟩ := r.drop_at k (by simp [Fst.len] at h; omega)
  exact ⟨op', nm', vl', ks', h1, by simp [Fst.sz]; omega⟩
section
variable {w w' : World} {S : Nat → Prop} {K : Nat → Prop}
/-- One part stands at a place. -/
structure PartAt (w : World) (a : Addr) (op : Int) (nm vl : ByteArray) (kv : Value) : Prop where
 c0 : w.cell? a = some (.int .i64 op)
 c1 : w.cell? ⟨a.block, a.off + 1, none⟩ = some (.string nm)
 c2 : w.cell? ⟨a.block, a.off + 2, none⟩ = some (.string vl)
 c3 : w.cell? ⟨a.block, a.off + 3, none⟩ = some kv
/-- Filters stand side by side, from the i-th place on. -/
def ForR (K : Nat → Prop) (w : World) : Fst → Addr → Nat → Prop
 | .nil, _, _ => True
 | .cons op nm vl ks r, a, i => (K a.block ∧ ∃ oa cap, PartAt w (a.add (i * 4)) op nm vl (.slice oa ks.len cap) ∧ ks.len ≤ maxLen ∧ (ks.len = 0 ∨ ∃ b, oa = some b ∧ ForR K w ks b 0)) ∧ ForR K w r a (i + 1)
/-- A slice of filters. -/
def KidR (K : Nat → Prop) (w : World) (v : Value) (ks : Fst) : Prop := ∃ oa cap, v = .slice oa ks.len cap ∧ ks.len ≤ maxLen ∧ (ks.len = 0 ∨ ∃ b, oa = some b ∧ ForR K w ks b 0)
theorem ForR.fr : ∀ {F : Fst} {a : Addr} {i : Nat}, ForR K w F a i → Fr S w w' → (∀ i, K i → ¬ S i) → ForR K w' F a i
 | .nil, _, _, _, _, _ => trivial
 | .cons op nm vl ks r, a, i, ⟨⟨hk, oa, cap, hp, hml, hks⟩, hr⟩, hf, hS => by
  have hb : ∀ j, (a.add j).block = a.block := fun j => by unfold Addr.add; split <;> rfl
  refine ⟨⟨hk, oa, cap, ⟨?_, ?_, ?_, ?_⟩, hml, ?_⟩, ForR.fr hr hf hS⟩
  ·exact hf.cell hp.c0 (by rw [hb]; exact hS _ hk)
  ·exact hf.cell hp.c1 (by rw [hb]; exact hS _ hk)
  ·exact hf.cell hp.c2 (by rw [hb]; exact hS _ hk)
  ·exact hf.cell hp.c3 (by rw [hb]; exact hS _ hk)
  ·rcases hks with h | ⟨b, e, h⟩
   ·exact .inl h
   ·exact .inr ⟨b, e, ForR.fr h hf hS⟩
theorem KidR.fr {v : Value} {ks : Fst} (h : KidR K w v ks) (hf : Fr S w w') (hS : ∀ i, K i → ¬ S i) : KidR K w' v ks := by
 obtain ⟨oa, cap, rfl, hml, h⟩ := h
 refine ⟨oa, cap, rfl, hml, h.imp id ?_⟩
 rintro ⟨b, e, h⟩
 exact ⟨b, e, h.fr hf hS⟩
theorem KidR.len {v : Value} {ks : Fst} (h : KidR K w v ks) : ks.len ≤ maxLen := by obtain ⟨oa, cap, -, h, -⟩ := h; exact h
theorem KidR.old {v : Value} {ks : Fst} (h : KidR K w v ks) (hf : Fr (fun _ => False) w w') : KidR K w' v ks := h.fr hf fun _ _ h => h
theorem ForR.drop : ∀ {F : Fst} {a : Addr} {i : Nat} (k : Nat), ForR K w F a i → ForR K w (F.drop k) a (i + k)
 | F, a, i, 0, h => by rw [Fst.drop_zero]; exact h
 | .nil, a, i, k + 1, h => trivial
 | .cons op nm vl ks r, a, i, k + 1, h => by
  have := ForR.drop k h.2
  rw [show i + 1 + k = i + (k + 1) by omega] at this
  exact this
theorem KidR.at {oa : Option Addr} {n cap : Nat} {ks : Fst} {k : Nat} {op : Int} {nm vl : ByteArray} {xs r : Fst} (h : KidR K w (.slice oa n cap) ks) (hd : ks.drop k = .cons op nm vl xs r) (hk : k < ks.len) :
  ∃ a kv, oa = some a ∧ K a.block ∧ PartAt w (a.add (k * 4)) op nm vl kv ∧ KidR K w kv xs := by
 obtain ⟨oa', cap', e, -, h⟩ := h
 injection e with e1 e2 e3
 subst e1
 rcases h with h | ⟨b, rfl, h⟩
 ·omega
 ·have := ForR.drop k h
  rw [hd] at this
  obtain ⟨⟨h1, oa2, cap2, h2, hml, h3⟩, -⟩ := this
  rw [show 0 + k = k by omega] at h2
  exact ⟨b, _, rfl, h1, h2, oa2, cap2, rfl, hml, h3⟩
def exV (op : Int) (nm vl : ByteArray) (kv : Value) : Value := .agg #[.int .i64 op, .string nm, .string vl, kv]
/-- How many parts stand side by side, counted on from n, to 100 at most. -/
def capF : Fst → Nat → Nat
 | .nil, n => n
 | .cons _ _ _ ks r, n => if 100 ≤ n then n else capF r (capF ks (n + 1))
theorem capF_cons (op : Int) (nm vl : ByteArray) (ks r : Fst) (n : Nat) : capF (.cons op nm vl ks r) n = if 100 ≤ n then n else capF r (capF ks (n + 1)) := rfl
theorem capF_le : ∀ (F : Fst) (n : Nat), n ≤ 100 → capF F n ≤ 100
 | .nil, n, h => h
 | .cons _ _ _ ks r, n, h => by
  unfold capF
  split
  ·exact h
  ·exact capF_le r _ (capF_le ks _ (by omega))
theorem capF_ge : ∀ (F : Fst) (n : Nat), n ≤ capF F n
 | .nil, n => Nat.le_refl _
 | .cons _ _ _ ks r, n => by
  unfold capF
  split
  ·exact Nat.le_refl _
  ·exact Nat.le_trans (Nat.le_trans (Nat.le_succ n) (capF_ge ks _)) (capF_ge r _)
theorem capF_top : ∀ (F : Fst) (n : Nat), 100 ≤ n → capF F n = n
 | .nil, n, h => rfl
 | .cons _ _ _ ks r, n, h => by unfold capF; rw [if_pos h]
structure CntA (w : World) (nb wb : Nat) (n : Nat) : Prop where
 hn : w.heap[nb]? = some (.cells #[.int .i64 (n : Int)] 3 (0, 0))
 hw : w.heap[wb]? = some (.cells #[.func (.func 91) #[] #[.pointer (some ⟨nb, 0, none⟩), .pointer (some ⟨wb, 0, none⟩)]] 185 (0, 0))
 ne : wb ≠ nb
theorem CntA.old {nb wb n : Nat} (h : CntA w nb wb n) (hf : Fr (fun _ => False) w w') : CntA w' nb wb n := ⟨blk h.hn hf fun h => h, blk h.hw hf fun h => h, h.ne⟩
def SizePost (w : World) (nb wb : Nat) (ks : Fst) (n : Nat) (e : Ending) (w' : World) : Prop :=
 e = .returned (.tuple #[]) ∧ CntA w' nb wb (capF ks (n + 1)) ∧ Fr (fun i => i = nb) w w'
set_option maxHeartbeats 32000000 in
theorem size1_walk (nb wb : Nat) (hK : ¬ K nb) (m : Nat) : ∀ (ks : Fst) (op : Int) (nm vl : ByteArray) (kv : Value) (n : Nat) (w : World), ks.sz < m → n ≤ 99 → KidR K w kv ks → CntA w nb wb n →
  Calls Tryz.prog 91 #[.agg #[.int .i64 op, .string nm, .string vl, kv], .pointer (some ⟨nb, 0, none⟩), .pointer (some ⟨wb, 0, none⟩)] w (SizePost w nb wb ks n) := by
 induction m with
 | zero => intro ks op nm vl kv n w h; omega
 | succ m ih =>
  intro ks op nm vl kv n w hm hn hk hc
  have hnb := lt_of_heap hc.hn
  have hwb := lt_of_heap hc.hw
  have dn := cell_of ((heap_alloc_lt (.cells #[.int .i64 op, .string nm, .string vl, kv] 38) hnb).trans hc.hn) 0
  have zn := fz_of ((heap_alloc_lt (.cells #[.int .i64 op, .string nm, .string vl, kv] 38) hnb).trans hc.hn) 0
  have f0 := (Fr.refl (fun i => i = nb) w).setCell (p := ⟨nb, 0, none⟩) (.inl rfl) (.int .i64 ((n : Int) + 1))
  have C0 : CntA (w.setCell ⟨nb, 0, none⟩ (.int .i64 ((n : Int) + 1))) nb wb (n + 1) := ⟨(heap_setCell_self hc.hn _).trans rfl, (f0.block _ hwb hc.ne).trans hc.hw, hc.ne⟩
  have fa := (Fr.same (w.setCell ⟨nb, 0, none⟩ (.int .i64 ((n : Int) + 1)))).alloc (.cells #[.int .i64 op, .string nm, .string vl, kv] 38)
  have CC := Lib.hid (C0.old fa)
  have F2 := Lib.hid (f0.trans fa fun _ h => h.elim)
  have KK := Lib.hid (hk.fr F2.out fun i hi e => hK (e ▸ hi))
  have hk0 := hk
  clear f0 C0 fa hc hk
  have KW := Lib.hid hk0
  clear hk0
  obtain ⟨oa, cap, rfl, -⟩ := id KK.out
  clear KK
  go_enter Tryz.func91, Tryz.ntmps91
  go_wp2_with fail
  generalize ((w.setCell ⟨nb, 0, none⟩ (.int .i64 ((n : Int) + 1))).alloc (.cells #[.int .i64 op, .string nm, .string vl, .slice oa ks.len cap] 38)) = w2 at *
  clear dn zn
  go_loopw [11] (fun i wr => ∃ (k n' : Nat), i = .int .i64 k ∧ k ≤ ks.len ∧ n + 1 + k ≤ n' ∧ n' ≤ 100 ∧ capF (ks.drop k) n' = capF ks (n + 1) ∧ CntA wr nb wb n' ∧ Fr (fun i => i = nb) w wr) (fun i _ => ks.len - (intOf i).toNat)
  case atStart => exact ⟨0, n + 1, rfl, Nat.zero_le _, by omega, by omega, by rw [Fst.drop_zero], CC.out, F2.out⟩
  case round =>
   obtain ⟨k, n', rfl, hk, hn1, hn2, hcap, hC, hF⟩ := hrel
   have FF := Lib.hid hF
   have CR := Lib.hid hC
   have CAP := Lib.hid hcap
   clear hC hF hcap
   rcases Nat.lt_or_ge k ks.len with hlt | hge
   ·obtain ⟨op1, nm1, vl1, xs, hd, hsz⟩ := ks.drop_at k hlt
    obtain ⟨a, kv1, rfl, hKa, hpt, hkid⟩ := (KW.out.fr FF.out fun i hi e => hK (e ▸ hi)).at hd hlt
    obtain ⟨c0, c1, c2, c3⟩ := hpt
    obtain ⟨oa1, cap1, rfl, -⟩ := id hkid
    have fa := (Fr.same wr).alloc (.cells #[.int .i64 op1, .string nm1, .string vl1, .slice oa1 xs.len cap1] 38)
    have C1 := CR.out.old fa
    have HD := Lib.hid hd
    have KD := Lib.hid (hkid.old fa)
    have C1H := Lib.hid C1
    have FA := Lib.hid (FF.out.trans fa fun _ h => h.elim)
    have dx := cell_alloc_new wr #[.int .i64 op1, .string nm1, .string vl1, .slice oa1 xs.len cap1] 38
    have dn := cell_of C1.hn 0
    have dw := cell_of C1.hw 0
    clear hkid fa C1 hd CR FF
    by_cases h100 : n' = 100
    ·subst h100
     go_wp2_with fail
     go_end0
     refine ⟨rfl, ?_, FA.out⟩
     have e := CAP.out
     rw [capF_top _ _ (by omega)] at e
     rw [← e]
     exact C1H.out
    ·have hlt100 : (n' : Int) < 100 := by omega
     have IH := Lib.hid (ih xs op1 nm1 vl1 _ n' _ (by omega) (by omega) KD.out C1H.out)
     go_wp2_with fail
     refine IH.out.mono ?_
     rintro e w4 ⟨rfl, hC4, hF4⟩
     have C4 := Lib.hid hC4
     have F4 := Lib.hid (FA.out.trans hF4 fun _ h => .inl h)
     clear hC4 hF4 IH dx dn dw
     go_wp2_with fail
     go_roundw
     case rel =>
      have e := CAP.out
      rw [HD.out, capF_cons, if_neg (by omega)] at e
      exact ⟨k + 1, capF xs (n' + 1), by go_num, by omega, by have := capF_ge xs (n' + 1); omega, capF_le _ _ (by omega), e, C4.out, F4.out⟩
     case measure => simp [intOf]; omega
   ·obtain rfl : k = ks.len := by omega
    go_wp2_with fail
    go_end0
    refine ⟨rfl, ?_, FF.out⟩
    have e := CAP.out
    rw [Fst.drop_end] at e
    rw [← e]
    exact CR.out
set_option maxHeartbeats 16000000 in
theorem xsize_walk (op : Int) (nm vl : ByteArray) (kv : Value) (ks : Fst) (hk : KidR K w kv ks) (ho : ∀ i, K i → i < w.heap.size) : Calls Tryz.prog 46 #[exV op nm vl kv] w fun e w' => e = .returned (.int .i64 ((capF ks 1 : Nat) : Int)) ∧ Fr (fun _ => False) w w' := by
 obtain ⟨oa, cap, rfl, -⟩ := id hk
 unfold exV
 have f1 := (Fr.same w).alloc (.cells #[.int .i64 op, .string nm, .string vl, .slice oa ks.len cap] 38)
 have f2 := f1.alloc (.cells #[.int .i64 0] 3)
 have s1 : (w.alloc (.cells #[.int .i64 op, .string nm, .string vl, .slice oa ks.len cap] 38)).heap.size = w.heap.size + 1 := by simp
 have s2 : ((w.alloc (.cells #[.int .i64 op, .string nm, .string vl, .slice oa ks.len cap] 38)).alloc (.cells #[.int .i64 0] 3)).heap.size = w.heap.size + 1 + 1 := by simp
 have x2 : ((w.alloc (.cells #[.int .i64 op, .string nm, .string vl, .slice oa ks.len cap] 38)).alloc (.cells #[.int .i64 0] 3)).heap[w.heap.size + 1]? = some (.cells #[.int .i64 0] 3 (0, 0)) := by rw [← s1]; exact heap_alloc_self _ _
 have f3 := f2.alloc (.cells #[.func (.func 91) #[] #[.pointer (some ⟨w.heap.size + 1, 0, none⟩), .pointer (some ⟨w.heap.size + 1 + 1, 0, none⟩)]] 185)
 have x3 := (heap_alloc_lt (.cells #[.func (.func 91) #[] #[.pointer (some ⟨w.heap.size + 1, 0, none⟩), .pointer (some ⟨w.heap.size + 1 + 1, 0, none⟩)]] 185) (lt_of_heap x2)).trans x2
 have y3 := heap_alloc_self ((w.alloc (.cells #[.int .i64 op, .string nm, .string vl, .slice oa ks.len cap] 38)).alloc (.cells #[.int .i64 0] 3)) (.cells #[.func (.func 91) #[] #[.pointer (some ⟨w.heap.size + 1, 0, none⟩), .pointer (some ⟨w.heap.size + 1 + 1, 0, none⟩)]] 185)
 rw [s2] at y3
 have CW := Lib.hid (size1_walk (K := K) (w.heap.size + 1) (w.heap.size + 1 + 1) (fun h => by have := ho _ h; omega) (ks.sz + 1) ks op nm vl _ 0 _ (by omega) (by omega) (hk.old f3) ⟨x3, y3, by omega⟩)
 have F3 := Lib.hid f3
 have LE := Lib.hid (capF_le ks 1 (by omega))
 clear f1 f2 s1 s2 x2 f3 x3 y3
 go_enter Tryz.func46, Tryz.ntmps46
 go_wp2_with fail
 generalize (((w.alloc (.cells #[.int .i64 op, .string nm, .string vl, .slice oa ks.len cap] 38)).alloc (.cells #[.int .i64 0] 3)).alloc (.cells #[.func (.func 91) #[] #[.pointer (some ⟨w.heap.size + 1, 0, none⟩), .pointer (some ⟨w.heap.size + 1 + 1, 0, none⟩)]] 185)) = w3 at *
 refine CW.out.mono ?_
 rintro e w4 ⟨rfl, h4, f4⟩
 rw [Nat.zero_add] at h4
 have c4 := cell_of h4.hn 0
 have F4 := Lib.hid (((F3.out.mono (S' := fun i => i = w.heap.size + 1) fun _ h => h.elim).trans f4 fun _ h => .inl h).mono (S' := fun _ => False) fun i e => .inr (by omega))
 have hle : ((capF ks 1 : Nat) : Int) ≤ 100 := by have := LE.out; omega
 have HLE := Lib.hid hle
 clear f4 CW h4 hle
 go_wp2_with fail
 go_ret
 refine ⟨?_, F4.out⟩
 show Ending.returned (Value.int .i64 (min _ _)) = _
 rw [Int.min_eq_left HLE.out]
def emB (s : ByteArray) : Bool := s.toList.isEmpty
def longB (s : ByteArray) : Bool := !s.toList.isEmpty && decide ((s.size : Int) ≤ 1000)
theorem long_walk (s : ByteArray) : Calls Tryz.prog 148 #[.string s] w fun e w' => e = .returned (.bool (longB s)) ∧ w' = w := by
 go_enter Tryz.func148, Tryz.ntmps148
 go_wp2_with fail
 ·rename_i h
  go_ret
  refine ⟨?_, rfl⟩
  unfold longB
  rw [h]
  rfl
 ·go_ret
  exact ⟨rfl, rfl⟩
/-- May one part be, but for its Kids? -/
def fitsB (op : Int) (nm vl : ByteArray) (n : Nat) : Bool :=
 decide (0 ≤ op ∧ op ≤ 7) && (if op = 4 ∨ op = 5 then longB nm else emB nm) && (if op = 5 then decide ((vl.size : Int) ≤ 1000) else if op = 6 ∨ op = 7 then longB vl else emB vl) &&
 decide ((if op = 1 ∨ op = 2 then 2 else if op = 3 then 1 else 0 : Int) ≤ n) && decide ((n : Int) ≤ if op = 1 ∨ op = 2 then 30 else if op = 3 then 1 else 0)
def BoolPost (b : Bool) (w : World) (e : Ending) (w' : World) : Prop := e = .returned (.bool b) ∧ Fr (fun _ => False) w w'
set_option maxHeartbeats 64000000 in
theorem fits_walk (op : Int) (nm vl : ByteArray) (oa : Option Addr) (n cap : Nat) : Calls Tryz.prog 92 #[exV op nm vl (.slice oa n cap)] w (BoolPost (fitsB op nm vl n) w) := by
 unfold exV
 have f1 := Lib.hid ((Fr.same w).alloc (.cells #[.int .i64 op, .string nm, .string vl, .slice oa n cap] 38))
 have x1 := Lib.hid (heap_alloc_self w (.cells #[.int .i64 op, .string nm, .string vl, .slice oa n cap] 38))
 have z0 : ∀ y : Lcl.InS (fun w' => Fr (fun _ => False) (w.alloc (.cells #[.int .i64 op, .string nm, .string vl, .slice oa n cap] 38)) w'), y.w.cell? ⟨w.heap.size, 1, none⟩ = some (.string nm) := fun y => y.h.cel ((cell_of x1.out 1).trans rfl)
 have z1 : ∀ y : Lcl.InS (fun w' => Fr (fun _ => False) (w.alloc (.cells #[.int .i64 op, .string nm, .string vl, .slice oa n cap] 38)) w'), y.w.cell? ⟨w.heap.size, 2, none⟩ = some (.string vl) := fun y => y.h.cel ((cell_of x1.out 2).trans rfl)
 go_enter Tryz.func92, Tryz.ntmps92
 go_wp2_with fail
 generalize (w.alloc (.cells #[.int .i64 op, .string nm, .string vl, .slice oa n cap] 38)) = W at *
 refine Lcl.wp_region_calm (by kernel_rfl) [(true, [0, 3]), (false, [1, 4]), (true, [2, 5, 6, 7])] #[0, 1, 3, 0, 8, 24, 7, 127] [0, 1, 2, 3, 4, 5, 6] 0 #[true, true, true, true, true, true, true, true] (by kernel_rfl) (by kernel_rfl) (by kernel_rfl) (fun w' => Fr (fun _ => False) W w') (Fr.same W).drew (fun d c a v w h => by cases d <;> exact h) ?_
 simp only [Lcl.opsOf, List.map_cons, List.map_nil, List.getElem?_toArray, List.getElem?_cons_succ, List.getElem?_cons_zero, Option.getD_some]
 refine Lcl.wpCalm_t ?_
 repeat (go_big_quiet_step (rfl))
 refine wpQuiet_nil ?_
 refine Lcl.wpCalm_f ?_
 repeat (go_big_quiet_step (rfl))
 refine wpQuiet_nil ?_
 refine Lcl.wpCalm_t ?_
 repeat (go_big_quiet_step (rfl))
 refine wpQuiet_nil ?_
 refine Lcl.wpCalm_nil ?_
 refine Lcl.wpG_run [] _ _ _ (by kernel_rfl) ?_
 simp only [List.map_cons, List.map_nil, List.getElem?_toArray, List.getElem?_cons_succ, List.getElem?_cons_zero, Option.getD_some]
 clear z0 z1
 have x2 := Lib.hid (((Fr.same W).drew.block _ (lt_of_heap x1.out) (fun h => h)).trans x1.out)
 have F2 := Lib.hid f1.out.drew
 clear f1 x1
 generalize W.drew = W2 at *
 have dd := fun j => cell_of x2.out j
 by_cases h0 : op = 0
 ·subst h0
  go_wp2_with fail
  all_goals (go_ret; refine ⟨?_, F2.out⟩; first | (simp_all [fitsB, emB]; done) | (simp_all [fitsB, emB]; intros; omega))
 by_cases h1 : op = 1
 ·subst h1
  go_wp2_with fail
  all_goals (go_ret; refine ⟨?_, F2.out⟩; first | (simp_all [fitsB, emB]; done) | (simp_all [fitsB, emB]; intros; omega))
 by_cases h2 : op = 2
 ·subst h2
  go_wp2_with fail
  all_goals (go_ret; refine ⟨?_, F2.out⟩; first | (simp_all [fitsB, emB]; done) | (simp_all [fitsB, emB]; intros; omega))
 by_cases h3 : op = 3
 ·subst h3
  go_wp2_with fail
  all_goals (go_ret; refine ⟨?_, F2.out⟩; first | (simp_all [fitsB, emB]; done) | (simp_all [fitsB, emB]; intros; omega))
 by_cases h4 : op = 4
 ·subst h4
  go_wp2_with (go_at_call 148; refine (long_walk _).mono ?_; rintro e w' ⟨rfl, rfl⟩)
  all_goals (go_ret; refine ⟨?_, F2.out⟩; first | (simp_all [fitsB, emB]; done) | (simp_all [fitsB, emB]; intros; omega))
 by_cases h5 : op = 5
 ·subst h5
  go_wp2_with (go_at_call 148; refine (long_walk _).mono ?_; rintro e w' ⟨rfl, rfl⟩)
  all_goals (go_ret; refine ⟨?_, F2.out⟩; first | (simp_all [fitsB, emB]; done) | (simp_all [fitsB, emB]; intros; omega))
 by_cases h6 : op = 6
 ·subst h6
  go_wp2_with (go_at_call 148; refine (long_walk _).mono ?_; rintro e w' ⟨rfl, rfl⟩)
  all_goals (go_ret; refine ⟨?_, F2.out⟩; first | (simp_all [fitsB, emB]; done) | (simp_all [fitsB, emB]; intros; omega))
 by_cases h7 : op = 7
 ·subst h7
  go_wp2_with (go_at_call 148; refine (long_walk _).mono ?_; rintro e w' ⟨rfl, rfl⟩)
  all_goals (go_ret; refine ⟨?_, F2.out⟩; first | (simp_all [fitsB, emB]; done) | (simp_all [fitsB, emB]; intros; omega))
 go_wp2_with fail
 go_ret
 refine ⟨?_, F2.out⟩
 have : fitsB op nm vl n = false := by
  unfold fitsB
  rw [decide_eq_false (show ¬ (0 ≤ op ∧ op ≤ 7) by omega)]
  rfl
 rw [this]
 rfl
/-- May all parts be, so many levels at most? -/
def allF : Fst → Nat → Bool
 | .nil, _ => true
 | .cons op nm vl ks r, l => (decide (l ≠ 0) && fitsB op nm vl ks.len && allF ks (l - 1)) && allF r l
def partB (op : Int) (nm vl : ByteArray) (ks : Fst) (l : Nat) : Bool := decide (l ≠ 0) && fitsB op nm vl ks.len && allF ks (l - 1)
theorem allF_cons (op : Int) (nm vl : ByteArray) (ks r : Fst) (l : Nat) : allF (.cons op nm vl ks r) l = (partB op nm vl ks l && allF r l) := rfl
theorem fits_len {op : Int} {nm vl : ByteArray} {n : Nat} (h : fitsB op nm vl n = true) : n ≤ 30 := by
 unfold fitsB at h
 simp only [Bool.and_eq_true, decide_eq_true_eq] at h
 have := h.2
 split at this
 ·omega
 ·split at this <;> omega
set_option maxHeartbeats 32000000 in
theorem all_walk (l : Nat) : ∀ (ks : Fst) (op : Int) (nm vl : ByteArray) (kv : Value) (w : World), l ≤ 6 → KidR K w kv ks → (∀ i, K i → i < w.heap.size) →
  Calls Tryz.prog 47 #[exV op nm vl kv, .int .i64 l] w (BoolPost (partB op nm vl ks l) w) := by
 induction l with
 | zero =>
  intro ks op nm vl kv w hl hk ho
  obtain ⟨oa, cap, rfl, -⟩ := hk
  unfold exV
  go_enter Tryz.func47, Tryz.ntmps47
  go_wp2_with fail
  go_ret
  exact ⟨rfl, (Fr.same w).alloc _⟩
 | succ l ih =>
  intro ks op nm vl kv w hl hk ho
  obtain ⟨oa, cap, rfl, -⟩ := id hk
  have CW := Lib.hid (fits_walk op nm vl oa ks.len cap (w := w.alloc (.cells #[.int .i64 op, .string nm, .string vl, .slice oa ks.len cap] 38)))
  have F1 := Lib.hid ((Fr.same w).alloc (.cells #[.int .i64 op, .string nm, .string vl, .slice oa ks.len cap] 38))
  have X1 := Lib.hid (heap_alloc_self w (.cells #[.int .i64 op, .string nm, .string vl, .slice oa ks.len cap] 38))
  have KW := Lib.hid hk
  have dx := cell_alloc_new w #[.int .i64 op, .string nm, .string vl, .slice oa ks.len cap] 38
  unfold exV at CW ⊢
  clear hk
  go_enter Tryz.func47, Tryz.ntmps47
  go_wp2_with fail
  clear dx
  generalize (w.alloc (.cells #[.int .i64 op, .string nm, .string vl, .slice oa ks.len cap] 38)) = w1 at *
  refine CW.out.mono ?_
  rintro e w2 ⟨rfl, f2⟩
  have F2 := Lib.hid (F1.out.tr f2)
  have X2 := Lib.hid (blk X1.out f2 fun h => h)
  have dx := cell_of X2.out
  clear f2 CW F1 X1
  obtain ⟨fb, hfb⟩ : ∃ fb, fb = fitsB op nm vl ks.len := ⟨_, rfl⟩
  rw [← hfb]
  have HFB := Lib.hid hfb
  clear hfb
  cases fb with
  | false =>
   go_wp2_with fail
   go_ret
   refine ⟨?_, F2.out⟩
   unfold partB
   rw [← HFB.out]
   simp
  | true =>
   have hlen := fits_len HFB.out.symm
   go_wp2_with fail
   have hne : ((l : Int) + 1 == 0) = false := by simp; omega
   simp only [hne]
   clear hne
   go_loopw [17] (fun i wr => ∃ k : Nat, i = .int .i64 k ∧ k ≤ ks.len ∧ allF ks l = allF (ks.drop k) l ∧ Fr (fun _ => False) w wr) (fun i _ => ks.len - (intOf i).toNat)
   case atStart => exact ⟨0, rfl, Nat.zero_le _, by rw [Fst.drop_zero], F2.out⟩
   case round =>
    obtain ⟨k, rfl, hk, hall, hF⟩ := hrel
    have FF := Lib.hid hF
    have ALL := Lib.hid hall
    clear hF hall dx
    rcases Nat.lt_or_ge k ks.len with hlt | hge
    ·obtain ⟨op1, nm1, vl1, xs, hd, -⟩ := ks.drop_at k hlt
     obtain ⟨a, kv1, rfl, hKa, hpt, hkid⟩ := (KW.out.old FF.out).at hd hlt
     obtain ⟨c0, c1, c2, c3⟩ := hpt
     obtain ⟨oa1, cap1, rfl, -⟩ := id hkid
     have fa := (Fr.same wr).alloc (.cells #[.int .i64 op1, .string nm1, .string vl1, .slice oa1 xs.len cap1] 38)
     have FA := Lib.hid (FF.out.tr fa)
     have IH := Lib.hid (ih xs op1 nm1 vl1 _ _ (by omega) (hkid.old fa) fun i hi => Nat.lt_of_lt_of_le (ho i hi) FA.out.size)
     have HD := Lib.hid hd
     unfold exV at IH
     have dx := cell_alloc_new wr #[.int .i64 op1, .string nm1, .string vl1, .slice oa1 xs.len cap1] 38
     clear fa hkid hd FF
     go_wp2_with fail
     refine IH.out.mono ?_
     rintro e w4 ⟨rfl, f4⟩
     have F4 := Lib.hid (FA.out.tr f4)
     clear f4 IH dx FA
     obtain ⟨pb, hpb⟩ : ∃ pb, pb = partB op1 nm1 vl1 xs l := ⟨_, rfl⟩
     rw [← hpb]
     have HPB := Lib.hid hpb
     clear hpb
     cases pb with
     | false =>
      go_wp2_with fail
      go_ret
      refine ⟨?_, F4.out⟩
      have e : allF ks l = false := by rw [ALL.out, HD.out, allF_cons, ← HPB.out]; rfl
      unfold partB
      rw [show l + 1 - 1 = l by omega, e, Bool.and_false]
      rfl
     | true =>
      go_wp2_with fail
      go_roundw
      case rel => exact ⟨k + 1, by go_num, by omega, by rw [ALL.out, HD.out, allF_cons, ← HPB.out]; rfl, F4.out⟩
      case measure => simp [intOf]; omega
    ·obtain rfl : k = ks.len := by omega
     go_wp2_with fail
     go_ret
     refine ⟨?_, FF.out⟩
     have e : allF ks l = true := by rw [ALL.out, Fst.drop_end]; rfl
     unfold partB
     rw [show l + 1 - 1 = l by omega, e, ← HFB.out]
     simp
end
end Go.Proofs.YtfdhofabgdkkkaaGreatDoor
