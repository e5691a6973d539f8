/- Add, by one contract. -/
import Derived.Test.YtdlnafhhkpklmaaGreatDoorW1
import Derived.Test.YtdlnafhhkpklmaaGreatDoorW3
import Derived.Test.YtdlnafhhkpklmaaGreatDoorW4
namespace Go.Proofs.YtdlnafhhkpklmaaGreatDoor
open Go.RowKit Go.Fm
set_option linter.unusedVariables false

def may (n : Int) : Prop := 0 ≤ n ∧ n ≤ 1099511627776
instance (n : Int) : Decidable (may n) := by unfold may; infer_instance

/-- What Add takes. -/
def Ix.takes (x : Ix) (o p t : Int) : Prop := (may o ∧ may p ∧ may t) ∧ (x.any = true → (x.lo : Int) < o ∧ (x.lp : Int) < p)
instance (x : Ix) (o p t : Int) : Decidable (x.takes o p t) := by unfold Ix.takes; infer_instance

def Ix.lastP (x : Ix) : Nat := (x.es.getLast?.map (·.p)).getD 0

/-- Is there a new entry? -/
def Ix.entry (x : Ix) (p : Nat) : Bool := x.es.isEmpty || decide ((x.every : Int) ≤ (p : Int) - x.lastP)

def Ix.put (x : Ix) (o p t : Nat) : Ix :=
  let lat := if x.any then max x.lat t else t
  { every := x.every, es := if x.entry p then x.es ++ [⟨o, p, lat⟩] else x.es, any := true, lo := o, lp := p, lat := lat }

def Ix.add (x : Ix) (o p t : Int) : Ix := if x.takes o p t then x.put o.toNat p.toNat t.toNat else x
def Ix.code (x : Ix) (o p t : Int) : Int := if x.takes o p t then 0 else 1

/-- What holds of every index that Add has made. -/
structure Ix.good (x : Ix) : Prop extends x.ok where
  rise : rise x.es
  last : ∀ e ∈ x.es, e.o ≤ x.lo ∧ e.p ≤ x.lp ∧ e.t ≤ x.lat

theorem Ix.good.nil {every : Nat} (h1 : 1 ≤ every) (h2 : every ≤ 1000000) : Ix.good ⟨every, [], false, 0, 0, 0⟩ :=
  { e1 := h1, e2 := h2, lo := Nat.zero_le _, lp := Nat.zero_le _, es := by simp, lat := Nat.zero_le _, any := rfl, rise := List.Pairwise.nil, last := by simp }

theorem Ix.good.put {x : Ix} (h : x.good) {o p t : Nat} (ho : o ≤ big) (hp : p ≤ big) (ht : t ≤ big) (ha : x.any = true → x.lo < o ∧ x.lp < p) : (x.put o p t).good := by
  obtain ⟨lat, hlat⟩ : ∃ lat, lat = if x.any then max x.lat t else t := ⟨_, rfl⟩
  have hle : lat ≤ big := by
    rw [hlat]
    have := h.lat
    split <;> omega
  have he : ∀ e ∈ x.es, e.o < o ∧ e.p < p ∧ e.t ≤ lat := by
    intro e he
    have hany : x.any = true := by
      rw [h.any]
      cases hx : x.es with
      | nil => rw [hx] at he; cases he
      | cons a l => rfl
    have h1 := h.last e he
    have h2 := ha hany
    rw [hlat, hany]
    simp only [if_true]
    omega
  have hput : x.put o p t = { every := x.every, es := if x.entry p then x.es ++ [⟨o, p, lat⟩] else x.es, any := true, lo := o, lp := p, lat := lat } := by rw [hlat]; rfl
  rw [hput]
  by_cases hen : x.entry p = true
  · simp only [hen, if_true]
    refine { e1 := h.e1, e2 := h.e2, lo := ho, lp := hp, es := ?_, lat := hle, any := by simp, rise := ?_, last := ?_ }
    · intro e h1
      rcases List.mem_append.1 h1 with h1 | h1
      · exact h.es e h1
      · simp at h1; subst h1; exact ⟨ho, hp, hle⟩
    · refine List.pairwise_append.2 ⟨h.rise, by simp, ?_⟩
      intro a h1 b h2
      simp at h2
      subst h2
      exact he a h1
    · intro e h1
      rcases List.mem_append.1 h1 with h1 | h1
      · have := he e h1; exact ⟨Nat.le_of_lt this.1, Nat.le_of_lt this.2.1, this.2.2⟩
      · simp at h1; subst h1; exact ⟨Nat.le_refl _, Nat.le_refl _, Nat.le_refl _⟩
  · simp only [hen, Bool.false_eq_true, if_false]
    have hne : x.es.isEmpty = false := by
      unfold Ix.entry at hen
      simp only [Bool.or_eq_true, not_or, Bool.not_eq_true] at hen
      exact hen.1
    refine { e1 := h.e1, e2 := h.e2, lo := ho, lp := hp, es := h.es, lat := hle, any := by simp [hne], rise := h.rise, last := fun e h1 => ?_ }
    have := he e h1
    exact ⟨Nat.le_of_lt this.1, Nat.le_of_lt this.2.1, this.2.2⟩

theorem Ix.good.add {x : Ix} (h : x.good) (o p t : Int) : (x.add o p t).good := by
  unfold Ix.add
  split
  · rename_i ht
    obtain ⟨⟨⟨o1, o2⟩, ⟨p1, p2⟩, t1, t2⟩, ha⟩ := ht
    exact h.put (by unfold big; omega) (by unfold big; omega) (by unfold big; omega) fun he => by have := ha he; omega
  · exact h

theorem Ix.add_len (x : Ix) (o p t : Int) : (x.add o p t).es.length ≤ x.es.length + 1 := by
  unfold Ix.add
  split
  · unfold Ix.put
    dsimp only
    split <;> simp
  · omega

theorem add_any {B : Nat} {w : World} {b : Nat} {x : Ix} {S : Nat → Prop} (h : Ix.rep B w b x S) (hg : x.good) (hn : x.es.length ≤ 900) (hB : B ≤ w.heap.size) (o p t : Int) :
    Calls Tryz.prog 112 #[.pointer (some ⟨b, 0, none⟩), .int .i64 o, .int .i64 p, .int .i64 t] w fun e w' => e = .returned (.int .i64 (x.code o p t)) ∧ AddPost B w b S (x.add o p t) w' := by
  have hsame : ∀ w', Fr (fun _ => False) w w' → AddPost B w b S x w' := fun w' hf =>
    ⟨S, h.kept fun k hk => hf.block k (h.lt hk).2 (fun h => h), fun k hk => .inl hk, hf.mono fun i hi => hi.elim⟩
  obtain ⟨sa, sc, ta, tc, h1, hS⟩ := rep_slices h
  have hSS : S = foot b (.slice sa x.es.length sc) (.slice ta x.es.length tc) := funext fun k => propext (hS k)
  by_cases hm : may o ∧ may p ∧ may t
  · obtain ⟨⟨o1, o2⟩, ⟨p1, p2⟩, t1, t2⟩ := hm
    obtain ⟨o, rfl⟩ := Int.eq_ofNat_of_zero_le o1
    obtain ⟨p, rfl⟩ := Int.eq_ofNat_of_zero_le p1
    obtain ⟨t, rfl⟩ := Int.eq_ofNat_of_zero_le t1
    have ho : o ≤ big := by unfold big; omega
    have hp : p ≤ big := by unfold big; omega
    have ht : t ≤ big := by unfold big; omega
    by_cases ha : x.any = true
    · by_cases hlow : o ≤ x.lo ∨ p ≤ x.lp
      · have hnt : ¬ x.takes o p t := fun h9 => by have := h9.2 ha; omega
        unfold Ix.code Ix.add
        rw [if_neg hnt, if_neg hnt]
        have hb := h1.hb
        rw [ha] at hb
        exact (add_low b x.every _ _ x.lo x.lp x.lat o p t w hb ho hp ht hg.lo hg.lp hlow).mono fun e w' hw => ⟨hw.1, hsame w' hw.2⟩
      · have hlo : x.lo < o := by omega
        have hlp : x.lp < p := by omega
        have hta : x.takes o p t := ⟨⟨⟨o1, o2⟩, ⟨p1, p2⟩, t1, t2⟩, fun _ => ⟨by omega, by omega⟩⟩
        have hne : x.es ≠ [] := by
          intro he
          have := hg.any
          rw [ha, he] at this
          cases this
        obtain ⟨e, he⟩ : ∃ e, x.es.getLast? = some e := ⟨_, List.getLast?_eq_some_getLast hne⟩
        have hem : e ∈ x.es := List.mem_of_getLast? he
        have hl0 := List.length_pos_iff.2 hne
        have hep := (hg.es e hem).2.1
        have hlastP : x.lastP = e.p := by unfold Ix.lastP; rw [he]; rfl
        have hie : x.es.isEmpty = false := by simpa using hne
        have hlast := last_spot h1.hs rfl he
        have HR : Ix.repV B w b ⟨x.every, x.es, true, x.lo, x.lp, x.lat⟩ (.slice sa x.es.length sc) (.slice ta x.es.length tc) := by rw [← ha]; exact h1
        unfold Ix.code Ix.add
        rw [if_pos hta, if_pos hta]
        by_cases hen : (x.every : Int) ≤ (p : Int) - e.p
        · have hent : x.entry p = true := by unfold Ix.entry; rw [hlastP, hie]; simpa using hen
          have hput : x.put (o : Int).toNat (p : Int).toNat (t : Int).toNat = ⟨x.every, x.es ++ [⟨o, p, max x.lat t⟩], true, o, p, max x.lat t⟩ := by
            simp [Ix.put, hent, ha]
          rw [hput, hSS]
          exact add_entry b x.every sa ta sc tc x.lo x.lp x.lat o p t _ B x.es.length x.es w rfl HR e.o e.p hlast hl0 (by omega) hep hg.e2 hB ho hp ht hg.lo hg.lp hg.lat hlo hlp rfl hen
        · have hent : x.entry p = false := by unfold Ix.entry; rw [hlastP, hie]; simpa using hen
          have hput : x.put (o : Int).toNat (p : Int).toNat (t : Int).toNat = ⟨x.every, x.es, true, o, p, max x.lat t⟩ := by
            simp [Ix.put, hent, ha]
          rw [hput, hSS]
          exact add_more b x.every sa ta sc tc x.lo x.lp x.lat o p t _ B x.es.length x.es w rfl HR e.o e.p hlast hl0 (by omega) hep hg.e2 hB ho hp ht hg.lo hg.lp hg.lat hlo hlp rfl (by omega)
    · have ha' : x.any = false := by simpa using ha
      have hes : x.es = [] := by
        have := hg.any
        rw [ha'] at this
        simpa using this.symm
      have hta : x.takes o p t := ⟨⟨⟨o1, o2⟩, ⟨p1, p2⟩, t1, t2⟩, fun h9 => absurd h9 ha⟩
      unfold Ix.code Ix.add
      rw [if_pos hta, if_pos hta]
      have hent : x.entry p = true := by unfold Ix.entry; rw [hes]; rfl
      have hput : x.put (o : Int).toNat (p : Int).toNat (t : Int).toNat = ⟨x.every, [⟨o, p, t⟩], true, o, p, t⟩ := by
        simp [Ix.put, hent, ha', hes]
      have hlen : x.es.length = 0 := by rw [hes]; rfl
      have HR : Ix.repV B w b ⟨x.every, [], false, x.lo, x.lp, x.lat⟩ (.slice sa x.es.length sc) (.slice ta x.es.length tc) := by
        rw [← ha', ← hes]; exact h1
      rw [hput, hSS]
      exact add_first b x.every sa ta sc tc x.lo x.lp x.lat o p t B x.es.length w hlen HR hB ho hp ht
  · have hnt : ¬ x.takes o p t := fun h9 => hm h9.1
    unfold Ix.code Ix.add
    rw [if_neg hnt, if_neg hnt]
    exact (add_out ⟨b, 0, none⟩ o p t w hm).mono fun e w' hw => ⟨hw.1, hsame w' hw.2⟩
end Go.Proofs.YtdlnafhhkpklmaaGreatDoor
