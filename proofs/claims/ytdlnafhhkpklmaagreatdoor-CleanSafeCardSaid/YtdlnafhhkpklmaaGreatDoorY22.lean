/- Add, by one contract. -/
import Derived.Test.YtdlnafhhkpklmaaGreatDoorY19
import Derived.Test.YtdlnafhhkpklmaaGreatDoorY20
import Derived.Test.YtdlnafhhkpklmaaGreatDoorY21
import Derived.Test.YtdlnafhhkpklmaaGreatDoorY3
import Derived.Maps.OwnSet
import Derived.DeepKeys4
namespace Go.Proofs.YtdlnafhhkpklmaaGreatDoor
open Go.RowKit Go.Fm
set_option linter.unusedVariables false
def may (n : Int) : Prop := 0 ≤ n ∧ n ≤ 1099511627776
instance (n : Int) : Decidable (may n) := by unfold may; infer_instance
/-- What Add takes. -/
def Ix.takes (x : Ix) (o p t : Int) : Prop := (may o ∧ may p ∧ may t) ∧ (x.any = true → (x.lo : Int) < o ∧ (x.lp : Int) < p)
instance (x : Ix) (o p t : Int) : Decidable (x.takes o p t) := by unfold Ix.takes; infer_instance
def Ix.lastP (x : Ix) : Nat := (x.es.getLast?.map (·.p)).getD 0
/-- Is there a new entry? -/
def Ix.entry (x : Ix) (p : Nat) : Bool := x.es.isEmpty || decide ((x.every : Int) ≤ (p : Int) - x.lastP)
def Ix.put (x : Ix) (o p t : Nat) : Ix :=
 let lat := if x.any then max x.lat t else t
 { every := x.every, es := if x.entry p then x.es ++ [⟨o, p, lat⟩] else x.es, any := true, lo := o, lp := p, lat := lat }
def Ix.add (x : Ix) (o p t : Int) : Ix := if x.takes o p t then x.put o.toNat p.toNat t.toNat else x
def Ix.code (x : Ix) (o p t : Int) : Int := if x.takes o p t then 0 else 1
/-- What holds of every index that Add has made. -/
structure Ix.good (x : Ix) : Prop extends x.ok where
 rise : rise x.es
 last : ∀ e ∈ x.es, e.o ≤ x.lo ∧ e.p ≤ x.lp ∧ e.t ≤ x.lat
theorem Ix.good.nil {every : Nat} (h1 : 1 ≤ every) (h2 : every ≤ 1000000) : Ix.good ⟨every, [], false, 0, 0, 0⟩ :=
 { e1 := h1, e2 := h2, lo := Nat.zero_le _, lp := Nat.zero_le _, es := by simp, lat := Nat.zero_le _, any := rfl, rise := List.Pairwise.nil, last := by simp }
theorem Ix.good.put {x : Ix} (h : x.good) {o p t : Nat} (ho : o ≤ big) (hp : p ≤ big) (ht : t ≤ big) (ha : x.any = true → x.lo < o ∧ x.lp < p) : (x.put o p t).good := by
 obtain ⟨lat, hlat⟩ : ∃ lat, lat = if x.any then max x.lat t else t := ⟨_, rfl⟩
 have hle : lat ≤ big := by
  rw [hlat]
  have := h.lat
  split <;> omega
 have he : ∀ e ∈ x.es, e.o < o ∧ e.p < p ∧ e.t ≤ lat := by
  intro e he
  have hany : x.any = true := by
   rw [h.any]
   cases hx : x.es with
   | nil => rw [hx] at he; cases he
   | cons a l => rfl
  have h1 := h.last e he
  have h2 := ha hany
  rw [hlat, hany]
  simp only [if_true]
  omega
 have hput : x.put o p t = { every := x.every, es := if x.entry p then x.es ++ [⟨o, p, lat⟩] else x.es, any := true, lo := o, lp := p, lat := lat } := by rw [hlat]; rfl
 rw [hput]
 by_cases hen : x.entry p = true
 ·simp only [hen, if_true]
  refine { e1 := h.e1, e2 := h.e2, lo := ho, lp := hp, es := ?_, lat := hle, any := by simp, rise := ?_, last := ?_ }
  ·intro e h1
   rcases List.mem_append.1 h1 with h1 | h1
   ·exact h.es e h1
   ·simp at h1; subst h1; exact ⟨ho, hp, hle⟩
  ·refine List.pairwise_append.2 ⟨h.rise, by simp, ?_⟩
   intro a h1 b h2
   simp at h2
   subst h2
   exact he a h1
  ·intro e h1
   rcases List.mem_append.1 h1 with h1 | h1
   ·have := he e h1; exact ⟨Nat.le_of_lt this.1, Nat.le_of_lt this.2.1, this.2.2⟩
   ·simp at h1; subst h1; exact ⟨Nat.le_refl _, Nat.le_refl _, Nat.le_refl _⟩
 ·simp only [hen, Bool.false_eq_true, if_false]
  have hne : x.es.isEmpty = false := by
   unfold Ix.entry at hen
   simp only [Bool.or_eq_true, not_or, Bool.not_eq_true] at hen
   exact hen.1
  refine { e1 := h.e1, e2 := h.e2, lo := ho, lp := hp, es := h.es, lat := hle, any := by simp [hne], rise := h.rise, last := fun e h1 => ?_ }
  have := he e h1
  exact ⟨Nat.le_of_lt this.1, Nat.le_of_lt this.2.1, this.2.2⟩
theorem Ix.good.add {x : Ix} (h : x.good) (o p t : Int) : (x.add o p t).good := by
 unfold Ix.add
 split
 ·rename_i ht
  obtain ⟨⟨⟨o1, o2⟩, ⟨p1, p2⟩, t1, t2⟩, ha⟩ := ht
  exact h.put (by unfold big; omega) (by unfold big; omega) (by unfold big; omega) fun he => by have := ha he; omega
 ·exact h
theorem Ix.add_len (x : Ix) (o p t : Int) : (x.add o p t).es.length ≤ x.es.length + 1 := by
 unfold Ix.add
 split
 ·unfold Ix.put
  dsimp only
  split <;> simp
 ·omega
theorem add_any {B : Nat} {w : World} {b : Nat} {x : Ix} {S : Nat → Prop} (h : Ix.rep B w b x S) (hg : x.good) (hn : x.es.length ≤ 900) (hB : B ≤ w.heap.size) (o p t : Int) :
  Calls Tryz.prog 112 #[.pointer (some ⟨b, 0, none⟩), .int .i64 o, .int .i64 p, .int .i64 t] w fun e w' => e = .returned (.int .i64 (x.code o p t)) ∧ AddPost B w b S (x.add o p t) w' := by
 have hsame : ∀ w', Fr (fun _ => False) w w' → AddPost B w b S x w' := fun w' hf =>
  ⟨S, h.kept fun k hk => hf.block k (h.lt hk).2 (fun h => h), fun k hk => .inl hk, hf.mono fun i hi => hi.elim⟩
 obtain ⟨sa, sc, ta, tc, h1, hS⟩ := rep_slices h
 have hSS : S = foot b (.slice sa x.es.length sc) (.slice ta x.es.length tc) := funext fun k => propext (hS k)
 by_cases hm : may o ∧ may p ∧ may t
 ·obtain ⟨⟨o1, o2⟩, ⟨p1, p2⟩, t1, t2⟩ := hm
  obtain ⟨o, rfl⟩ := Int.eq_ofNat_of_zero_le o1
  obtain ⟨p, rfl⟩ := Int.eq_ofNat_of_zero_le p1
  obtain ⟨t, rfl⟩ := Int.eq_ofNat_of_zero_le t1
  have ho : o ≤ big := by unfold big; omega
  have hp : p ≤ big := by unfold big; omega
  have ht : t ≤ big := by unfold big; omega
  by_cases ha : x.any = true
  ·by_cases hlow : o ≤ x.lo ∨ p ≤ x.lp
   ·have hnt : ¬ x.takes o p t := fun h9 => by have := h9.2 ha; omega
    unfold Ix.code Ix.add
    rw [if_neg hnt, if_neg hnt]
    have hb := h1.hb
    rw [ha] at hb
    exact (add_low b x.every _ _ x.lo x.lp x.lat o p t w hb ho hp ht hg.lo hg.lp hlow).mono fun e w' hw => ⟨hw.1, hsame w' hw.2⟩
   ·have hlo : x.lo < o := by omega
    have hlp : x.lp < p := by omega
    have hta : x.takes o p t := ⟨⟨⟨o1, o2⟩, ⟨p1, p2⟩, t1, t2⟩, fun _ => ⟨by omega, by omega⟩⟩
    have hne : x.es ≠ [] := by
     intro he
     have := hg.any
     rw [ha, he] at this
     cases this
    obtain ⟨e, he⟩ : ∃ e, x.es.getLast? = some e := ⟨_, List.getLast?_eq_some_getLast hne⟩
    have hem : e ∈ x.es := List.mem_of_getLast? he
    have hl0 := List.length_pos_iff.2 hne
    have hep := (hg.es e hem).2.1
    have hlastP : x.lastP = e.p := by unfold Ix.lastP; rw [he]; rfl
    have hie : x.es.isEmpty = false := by simpa using hne
    have hlast := last_spot h1.hs rfl he
    have HR : Ix.repV B w b ⟨x.every, x.es, true, x.lo, x.lp, x.lat⟩ (.slice sa x.es.length sc) (.slice ta x.es.length tc) := by rw [← ha]; exact h1
    unfold Ix.code Ix.add
    rw [if_pos hta, if_pos hta]
    by_cases hen : (x.every : Int) ≤ (p : Int) - e.p
    ·have hent : x.entry p = true := by unfold Ix.entry; rw [hlastP, hie]; simpa using hen
     have hput : x.put (o : Int).toNat (p : Int).toNat (t : Int).toNat = ⟨x.every, x.es ++ [⟨o, p, max x.lat t⟩], true, o, p, max x.lat t⟩ := by
      simp [Ix.put, hent, ha]
     rw [hput, hSS]
     exact add_entry b x.every sa ta sc tc x.lo x.lp x.lat o p t _ B x.es.length x.es w rfl HR e.o e.p hlast hl0 (by omega) hep hg.e2 hB ho hp ht hg.lo hg.lp hg.lat hlo hlp rfl hen
    ·have hent : x.entry p = false := by unfold Ix.entry; rw [hlastP, hie]; simpa using hen
     have hput : x.put (o : Int).toNat (p : Int).toNat (t : Int).toNat = ⟨x.every, x.es, true, o, p, max x.lat t⟩ := by
      simp [Ix.put, hent, ha]
     rw [hput, hSS]
     exact add_more b x.every sa ta sc tc x.lo x.lp x.lat o p t _ B x.es.length x.es w rfl HR e.o e.p hlast hl0 (by omega) hep hg.e2 hB ho hp ht hg.lo hg.lp hg.lat hlo hlp rfl (by omega)
  ·have ha' : x.any = false := by simpa using ha
   have hes : x.es = [] := by
    have := hg.any
    rw [ha'] at this
    simpa using this.symm
   have hta : x.takes o p t := ⟨⟨⟨o1, o2⟩, ⟨p1, p2⟩, t1, t2⟩, fun h9 => absurd h9 ha⟩
   unfold Ix.code Ix.add
   rw [if_pos hta, if_pos hta]
   have hent : x.entry p = true := by unfold Ix.entry; rw [hes]; rfl
   have hput : x.put (o : Int).toNat (p : Int).toNat (t : Int).toNat = ⟨x.every, [⟨o, p, t⟩], true, o, p, t⟩ := by
    simp [Ix.put, hent, ha', hes]
   have hlen : x.es.length = 0 := by rw [hes]; rfl
   have HR : Ix.repV B w b ⟨x.every, [], false, x.lo, x.lp, x.lat⟩ (.slice sa x.es.length sc) (.slice ta x.es.length tc) := by
    rw [← ha', ← hes]; exact h1
   rw [hput, hSS]
   exact add_first b x.every sa ta sc tc x.lo x.lp x.lat o p t B x.es.length w hlen HR hB ho hp ht
 ·have hnt : ¬ x.takes o p t := fun h9 => hm h9.1
  unfold Ix.code Ix.add
  rw [if_neg hnt, if_neg hnt]
  exact (add_out ⟨b, 0, none⟩ o p t w hm).mono fun e w' hw => ⟨hw.1, hsame w' hw.2⟩
end Go.Proofs.YtdlnafhhkpklmaaGreatDoor
/- The files of a disk: a map from names to boxes, as a list of rows. -/
namespace Go.Proofs.YtdlnafhhkpklmaaGreatDoor
open Go.RowKit Go.Fm Go.Maps
set_option linter.unusedVariables false
set_option linter.unusedSimpArgs false
def ptrV (b : Nat) : Value := .pointer (some ⟨b, 0, none⟩)
def keyL (s : ByteArray) : Lit := .string s.data.toList
def dat (n : Nat) : DataW Unit := .lit (.int .i64 n)
/-- How a pointer to a box reads. -/
def ptrElem : Value → Option (DataW Unit × List MemPlace)
 | .pointer none => some (.lit (.bool false), [])
 | .pointer (some ⟨b, 0, none⟩) => some (.lit (.int .i64 b), [])
 | _ => none
theorem ptrElem_mk (b : Nat) : ptrElem (ptrV b) = some (dat b, []) := rfl
theorem ptrElem_inv {v : Value} {b : Nat} {ps : List MemPlace} (h : ptrElem v = some (dat b, ps)) : v = ptrV b := by
 unfold ptrElem at h
 split at h
 ·simp [dat] at h
 ·simp [dat] at h
  obtain ⟨h, -⟩ := h
  have : (_ : Nat) = b := Int.ofNat.inj h
  subst this
  rfl
 ·cases h
theorem ptrElem_inv0 {v : Value} {ps : List MemPlace} (h : ptrElem v = some (.lit (.bool false), ps)) : v = .pointer none := by
 unfold ptrElem at h
 split at h
 ·rfl
 ·simp at h
 ·cases h
theorem sLaw : Keyed Tryz.prog 9 := string_keyed Tryz.underlying9
theorem zeroP (w : World) : (zeroValue 109).run Tryz.prog w = .ok (.pointer none) w := by kernel_rfl
theorem keyOf_mk {k : ByteArray} (h : k.size ≤ maxLen) : keyOf Tryz.prog 9 (.string k) = some (keyL k) := WideMaps.keyOf_string_mk Tryz.underlying9 h
theorem keyL_inj {a b : ByteArray} (h : keyL a = keyL b) : a = b := by
 unfold keyL at h
 injection h with h
 cases a; cases b; simp_all [← Array.toList_inj]
/-! ### The rows -/
abbrev Row := ByteArray × Nat
def getL (L : List Row) (k : ByteArray) : Option Nat := (L.find? fun r => r.1 = k).map (·.2)
structure RowsOK (L : List Row) : Prop where
 nodup : (L.map (·.1)).Nodup
 ok : ∀ r ∈ L, r.1.size ≤ maxLen
/-- Block b of w is a map that holds just these rows. -/
def TabM (w : World) (b : Nat) (L : List Row) : Prop :=
 RowsOK L ∧ ∃ D : DataW Unit, w.ownsMap Tryz.prog 9 ptrElem b (Maps.size D) D ∧ Maps.size D = L.length ∧
  (∀ k : ByteArray, k.size ≤ maxLen → ∀ z, D.atKey (keyL k) z = match getL L k with | some a => dat a | none => z)
theorem getL_some {L : List Row} {k : ByteArray} {a : Nat} (h : getL L k = some a) : (k, a) ∈ L := by
 unfold getL at h
 cases hf : L.find? fun r => r.1 = k with
 | none => rw [hf] at h; cases h
 | some r =>
  rw [hf] at h
  have h1 := List.find?_some hf
  have h2 := List.mem_of_find?_eq_some hf
  simp at h h1
  obtain ⟨x, y⟩ := r
  simp at h h1
  subst h h1
  exact h2
theorem getL_none {L : List Row} {k : ByteArray} (h : getL L k = none) : ∀ r ∈ L, r.1 ≠ k := by
 unfold getL at h
 simp at h
 intro r hr e
 exact h r.1 r.2 hr e
theorem getL_mem {L : List Row} (hn : (L.map (·.1)).Nodup) {k : ByteArray} {a : Nat} (h : (k, a) ∈ L) : getL L k = some a := by
 cases hg : getL L k with
 | none => exact absurd rfl (getL_none hg _ h)
 | some b =>
  have h2 := getL_some hg
  rw [List.nodup_iff_pairwise_ne, List.pairwise_map] at hn
  have : ∀ (l : List Row), l.Pairwise (fun x y => x.1 ≠ y.1) → (k, a) ∈ l → (k, b) ∈ l → a = b := by
   intro l
   induction l with
   | nil => intro _ h; cases h
   | cons x r ih =>
    intro hp h3 h4
    obtain ⟨p1, p2⟩ := List.pairwise_cons.1 hp
    rcases List.mem_cons.1 h3 with rfl | h6
    ·rcases List.mem_cons.1 h4 with h5 | h4
     ·injection h5 with _ h5; exact h5.symm
     ·exact (p1 (k, b) h4 rfl).elim
    ·rcases List.mem_cons.1 h4 with rfl | h4
     ·exact (p1 (k, a) h6 rfl).elim
     ·exact ih p2 h6 h4
  rw [this L hn h h2]
theorem TabM.lt {w : World} {b : Nat} {L : List Row} (h : TabM w b L) : b < w.heap.size := by
 obtain ⟨-, D, h1, -⟩ := h; exact h1.lt
theorem TabM.to {w w' : World} {b : Nat} {L : List Row} (h : TabM w b L) (hb : w'.heap[b]? = w.heap[b]?) : TabM w' b L := by
 obtain ⟨h0, D, ⟨es, clock, h1, h2⟩, h3⟩ := h
 exact ⟨h0, D, ⟨es, clock, hb.trans h1, h2⟩, h3⟩
theorem TabM.fr {w w' : World} {b : Nat} {L : List Row} {S : Nat → Prop} (h : TabM w b L) (hf : Fr S w w') (hb : ¬ S b) : TabM w' b L := h.to (hf.block b h.lt hb)
theorem TabM.made (w : World) : TabM (w.alloc (.map #[] 0)) w.heap.size [] :=
 ⟨⟨List.nodup_nil, by simp⟩, .map [], World.ownsMap_made w Tryz.prog 9 _, rfl, fun _ _ _ => rfl⟩
theorem TabM.has {w : World} {b : Nat} {L : List Row} {D : DataW Unit} (h3 : ∀ k : ByteArray, k.size ≤ maxLen → ∀ z, D.atKey (keyL k) z = match getL L k with | some a => dat a | none => z) {k : ByteArray} (hk : k.size ≤ maxLen) : Maps.has D (keyL k) = (getL L k).isSome := by
 cases hf : getL L k with
 | none => exact has_false_of_atKey fun z => by rw [h3 k hk, hf]
 | some x => exact has_true_of_atKey (y := dat x) fun z => by rw [h3 k hk, hf]
def boxV (o : Option Nat) : Value := match o with | some b => ptrV b | none => .pointer none
/-- 'f, is := d.files[name]'. -/
theorem TabM.look {w : World} {b : Nat} {L : List Row} (h : TabM w b L) {k : ByteArray} (hk : k.size ≤ maxLen) :
  (Instr.lookup 84 (.map (some b)) (.string k) true).run Tryz.prog w = .ok (.tuple #[boxV (getL L k), .bool (getL L k).isSome]) w := by
 obtain ⟨h0, D, h1, h2, h3⟩ := h
 obtain ⟨v, ps, hr, hv⟩ := h1.look_ok sLaw Tryz.underlying84 (zeroP w) (show ptrElem (.pointer none) = some (.lit (.bool false), []) from rfl) (keyOf_mk hk)
 rw [hr, TabM.has (w := w) (b := b) h3 hk]
 rw [h3 k hk] at hv
 cases hf : getL L k with
 | none => rw [hf] at hv; rw [ptrElem_inv0 hv]; rfl
 | some x => rw [hf] at hv; rw [ptrElem_inv hv]; rfl
/-- 'd.files[name]'. -/
theorem TabM.look1 {w : World} {b : Nat} {L : List Row} (h : TabM w b L) {k : ByteArray} (hk : k.size ≤ maxLen) :
  (Instr.lookup 84 (.map (some b)) (.string k) false).run Tryz.prog w = .ok (boxV (getL L k)) w := by
 obtain ⟨h0, D, h1, h2, h3⟩ := h
 obtain ⟨v, ps, hr, hv⟩ := h1.lookup sLaw Tryz.underlying84 (zeroP w) (show ptrElem (.pointer none) = some (.lit (.bool false), []) from rfl) (keyOf_mk hk)
 rw [hr]
 rw [h3 k hk] at hv
 cases hf : getL L k with
 | none => rw [hf] at hv; rw [ptrElem_inv0 hv]; rfl
 | some x => rw [hf] at hv; rw [ptrElem_inv hv]; rfl
theorem own_tight {w : World} {b n : Nat} {D : DataW Unit} (h : w.ownsMap Tryz.prog 9 ptrElem b n D) : w.ownsMap Tryz.prog 9 ptrElem b (Maps.size D) D := by
 obtain ⟨es, clock, h1, h2, h3, h4⟩ := h
 exact ⟨es, clock, h1, h2, by rw [h4]; simp [Maps.size, length_sorted], h4⟩
/-- The rows with one that is new, or has another value. -/
def putR (L : List Row) (k : ByteArray) (a : Nat) : List Row := (k, a) :: L.filter fun r => r.1 ≠ k
def delL (L : List Row) (k : ByteArray) : List Row := L.filter fun r => r.1 ≠ k
theorem getL_filter (L : List Row) (p : ByteArray → Bool) (k : ByteArray) : getL (L.filter fun r => p r.1) k = if p k then getL L k else none := by
 unfold getL
 induction L with
 | nil => simp
 | cons x r ih =>
  by_cases hx : x.1 = k
  ·subst hx
   by_cases hp : p x.1
   ·simp [hp]
   ·simp [hp] at ih ⊢
    exact ih
  ·by_cases hp : p x.1 = true <;> simp only [List.filter_cons, hp, if_true, List.find?_cons, hx, decide_false, Bool.false_eq_true, if_false] <;> exact ih
theorem getL_put (L : List Row) (k : ByteArray) (a : Nat) (k' : ByteArray) : getL (putR L k a) k' = if k' = k then some a else getL L k' := by
 unfold putR
 by_cases e : k' = k
 ·subst e; simp [getL]
 ·have h1 : getL ((k, a) :: L.filter fun r => r.1 ≠ k) k' = getL (L.filter fun r => r.1 ≠ k) k' := by
   unfold getL
   rw [List.find?_cons_of_neg]
   simp; exact fun h => e h.symm
  rw [h1, if_neg e]
  have := getL_filter L (fun x => x ≠ k) k'
  simp only [e, ne_eq, not_false_eq_true, decide_true, if_true] at this
  exact this
theorem getL_del (L : List Row) (k k' : ByteArray) : getL (delL L k) k' = if k' = k then none else getL L k' := by
 have := getL_filter L (fun x => x ≠ k) k'
 unfold delL
 rw [this]
 by_cases e : k' = k <;> simp [e]
theorem len_strike {L : List Row} (hn : (L.map (·.1)).Nodup) (k : ByteArray) : (delL L k).length + (if (getL L k).isSome then 1 else 0) = L.length := by
 induction L with
 | nil => simp [delL, getL]
 | cons x r ih =>
  obtain ⟨h1, h2⟩ := List.nodup_cons.1 hn
  have ih := ih h2
  by_cases hx : x.1 = k
  ·subst hx
   have : getL r x.1 = none := by
    cases hg : getL r x.1 with
    | none => rfl
    | some a => exact absurd (List.mem_map.2 ⟨_, getL_some hg, rfl⟩) h1
   rw [this] at ih
   simp [delL, getL] at ih ⊢
   exact ih
  ·have e1 : getL (x :: r) k = getL r k := by unfold getL; rw [List.find?_cons_of_neg]; simpa using hx
   rw [e1]
   simp [delL, hx] at ih ⊢
   omega
theorem rows_del {L : List Row} (h : RowsOK L) (k : ByteArray) : RowsOK (delL L k) :=
 ⟨h.nodup.sublist (List.filter_sublist.map _), fun r hr => h.ok r (List.mem_filter.1 hr).1⟩
theorem rows_put {L : List Row} (h : RowsOK L) {k : ByteArray} (hk : k.size ≤ maxLen) {a : Nat} : RowsOK (putR L k a) := by
 refine ⟨?_, fun r hr => ?_⟩
 ·unfold putR
  rw [List.map_cons, List.nodup_cons]
  refine ⟨fun hm => ?_, (rows_del h k).nodup⟩
  obtain ⟨r, hr, e⟩ := List.mem_map.1 hm
  have := (List.mem_filter.1 hr).2
  simp at this
  exact this e
 ·rcases List.mem_cons.1 hr with rfl | hr
  ·exact hk
  ·exact (rows_del h k).ok r hr
section
variable {ops : Array Oper} {rest : List Oper} {o : Oper} {a : Act} {Q : Exit → Act → World → Prop}
theorem TabM.put {w w' : World} {b n : Nat} {L : List Row} {D : DataW Unit} (h0 : RowsOK L) (h1 : w.ownsMap Tryz.prog 9 ptrElem b n D) (h2 : Maps.size D = L.length)
  (h3 : ∀ k : ByteArray, k.size ≤ maxLen → ∀ z, D.atKey (keyL k) z = match getL L k with | some a => dat a | none => z) {k : ByteArray} (hk : k.size ≤ maxLen) {x : Nat}
  {m : Nat} (h4 : w'.ownsMap Tryz.prog 9 ptrElem b m (D.put (keyL k) (dat x))) : TabM w' b (putR L k x) := by
 have isk : WideAt.IsKeyLit (keyL k) := trivial
 refine ⟨rows_put h0 hk, _, own_tight h4, ?_, fun k' hk' z => ?_⟩
 ·rw [size_put (h1.tidy sLaw), TabM.has (w := w) (b := b) h3 hk, h2]
  have := len_strike h0.nodup k
  have e : (putR L k x).length = (delL L k).length + 1 := rfl
  rw [e]
  cases hs : (getL L k).isSome <;> rw [hs] at this <;> simp at this ⊢ <;> omega
 ·rw [getL_put]
  by_cases e : k' = k
  ·subst e
   rw [atKey_put_same h1.isMap isk]; simp
  ·rw [atKey_put_other (fun h => e (keyL_inj h)), h3 k' hk', if_neg e]
theorem wpList_put (w : World) (hg : o.guard = none) (m x v : Operand) (hop : o.op = Op.mapUpdate 84 m x v) (b : Nat) (L : List Row) (hm : a.eval m = .map (some b)) (ht : TabM w b L) (hn : L.length < 1000000)
  (k : ByteArray) (hx : a.eval x = .string k) (hk : k.size ≤ maxLen) (n : Nat) (hv : a.eval v = ptrV n)
  (hK : ∀ w', TabM w' b (putR L k n) → w.grownBy w' (some b) → wpList Tryz.prog ops Q rest (a.put o.dst undef) w') : wpList Tryz.prog ops Q (o :: rest) a w := by
 obtain ⟨h0, D, h1, h2, h3⟩ := ht
 refine wpList_mapUpdate_own w hg m x v 84 hop 9 109 sLaw Tryz.underlying84 ptrElem b _ D hm h1 (by rw [h2]; unfold maxLen; omega) (.string k) (ptrV n) _ hx hv (keyOf_mk hk) (dat n) [] (ptrElem_mk n) fun w' h7 h8 => hK w' (TabM.put h0 h1 h2 h3 hk h7) h8
end
end Go.Proofs.YtdlnafhhkpklmaaGreatDoor
