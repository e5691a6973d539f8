/- The reference's Add, by one contract; New, by its own. -/
import Derived.Test.YtfogmmanebflpaaR2
import Derived.Test.YtfogmmanebflpaaR3
namespace Go.Proofs.Ytfogmmanebflpaa
open Go.RowKit Go.Fm
set_option linter.unusedVariables false
set_option linter.unusedSimpArgs false

theorem radd_any {B : Nat} {w : World} {b : Nat} {x : Ix} {S : Nat → Prop} (h : Rf.rep B w b x S) (hg : x.good) (hn : x.es.length ≤ 900) (hB : B ≤ w.heap.size) (o p t : Int) :
    Calls Try.prog 13 #[.pointer (some ⟨b, 0, none⟩), .int .i64 o, .int .i64 p, .int .i64 t] w fun e w' => e = .returned (.int .i64 (x.code o p t)) ∧ RfPost B w b S (x.add o p t) w' := by
  have hsame : ∀ w', w = w' → RfPost B w b S x w' := fun w' hf => by
    subst hf; exact ⟨S, h, fun k hk => .inl hk, Fr.refl _ _⟩
  obtain ⟨la, lc, h1, hS⟩ := rf_slice h
  have hSS : S = rfoot b (.slice la x.es.length lc) := funext fun k => propext (hS k)
  by_cases hm : may o ∧ may p ∧ may t
  · obtain ⟨⟨o1, o2⟩, ⟨p1, p2⟩, t1, t2⟩ := hm
    obtain ⟨o, rfl⟩ := Int.eq_ofNat_of_zero_le o1
    obtain ⟨p, rfl⟩ := Int.eq_ofNat_of_zero_le p1
    obtain ⟨t, rfl⟩ := Int.eq_ofNat_of_zero_le t1
    have ho : may (o : Int) := ⟨o1, o2⟩
    have hp : may (p : Int) := ⟨p1, p2⟩
    have ht : may (t : Int) := ⟨t1, t2⟩
    by_cases ha : x.any = true
    · by_cases hlow : (o : Int) ≤ x.lo ∨ (p : Int) ≤ x.lp
      · have hnt : ¬ x.takes o p t := fun h9 => by have := h9.2 ha; omega
        unfold Ix.code Ix.add
        rw [if_neg hnt, if_neg hnt]
        have hb := h1.hb
        rw [ha] at hb
        exact (radd_low b x.every _ x.lo x.lp x.lat o p t w hb ho hp ht (by omega)).mono fun e w' hw => ⟨hw.1, hsame w' hw.2⟩
      · have hlo : x.lo < o := by omega
        have hlp : x.lp < p := by omega
        have hta : x.takes o p t := ⟨⟨⟨o1, o2⟩, ⟨p1, p2⟩, t1, t2⟩, fun _ => ⟨by omega, by omega⟩⟩
        have hne : x.es ≠ [] := by
          intro he
          have := hg.any
          rw [ha, he] at this
          cases this
        obtain ⟨e, he⟩ : ∃ e, x.es.getLast? = some e := ⟨_, List.getLast?_eq_some_getLast hne⟩
        have hem : e ∈ x.es := List.mem_of_getLast? he
        have hl0 := List.length_pos_iff.2 hne
        have hep := (hg.es e hem).2.1
        have hlastP : x.lastP = e.p := by unfold Ix.lastP; rw [he]; rfl
        have hie : x.es.isEmpty = false := by simpa using hne
        have heg : x.es[x.es.length - 1]? = some e := by rw [← List.getLast?_eq_getElem?]; exact he
        obtain ⟨g, hga, -, hgp, -⟩ := rf_cells h1 _ e heg
        have hlast : ∃ g, la = some ⟨g, 0, none⟩ ∧ w.cell? ⟨g, (x.es.length - 1) * 3 + 1, none⟩ = some (.int .i64 e.p) := ⟨g, hga, hgp⟩
        have HR : Rf.repV B w b ⟨x.every, x.es, true, x.lo, x.lp, x.lat⟩ (.slice la x.es.length lc) := by rw [← ha]; exact h1
        unfold Ix.code Ix.add
        rw [if_pos hta, if_pos hta]
        by_cases hen : (x.every : Int) ≤ (p : Int) - e.p
        · have hent : x.entry p = true := by unfold Ix.entry; rw [hlastP, hie]; simpa using hen
          by_cases hgt : x.lat < t
          · have hput : x.put (o : Int).toNat (p : Int).toNat (t : Int).toNat = ⟨x.every, x.es ++ [⟨o, p, t⟩], true, o, p, t⟩ := by
              have hmx : max x.lat t = t := by omega
              simp [Ix.put, hent, ha, hmx]
            rw [hput, hSS]
            exact radd_entry_gt b x.every _ la lc x.lo x.lp x.lat o p t B x.es w rfl HR e.p hlast hl0 (by omega) hep hg.e2 hlo hlp hgt (by omega) hB ho hp ht
          · have hput : x.put (o : Int).toNat (p : Int).toNat (t : Int).toNat = ⟨x.every, x.es ++ [⟨o, p, x.lat⟩], true, o, p, x.lat⟩ := by
              have hmx : max x.lat t = x.lat := by omega
              simp [Ix.put, hent, ha, hmx]
            rw [hput, hSS]
            exact radd_entry_le b x.every _ la lc x.lo x.lp x.lat o p t B x.es w rfl HR e.p hlast hl0 (by omega) hep hg.e2 hlo hlp (by omega) (by omega) hB ho hp ht
        · have hent : x.entry p = false := by unfold Ix.entry; rw [hlastP, hie]; simpa using hen
          by_cases hgt : x.lat < t
          · have hput : x.put (o : Int).toNat (p : Int).toNat (t : Int).toNat = ⟨x.every, x.es, true, o, p, t⟩ := by
              have hmx : max x.lat t = t := by omega
              simp [Ix.put, hent, ha, hmx]
            rw [hput, hSS]
            exact radd_more_gt b x.every _ la lc x.lo x.lp x.lat o p t B x.es w rfl HR e.p hlast hl0 (by omega) hep hg.e2 hlo hlp hgt (by omega) hB ho hp ht
          · have hput : x.put (o : Int).toNat (p : Int).toNat (t : Int).toNat = ⟨x.every, x.es, true, o, p, x.lat⟩ := by
              have hmx : max x.lat t = x.lat := by omega
              simp [Ix.put, hent, ha, hmx]
            rw [hput, hSS]
            exact radd_more_le b x.every _ la lc x.lo x.lp x.lat o p t B x.es w rfl HR e.p hlast hl0 (by omega) hep hg.e2 hlo hlp (by omega) (by omega) hB ho hp ht
    · have ha' : x.any = false := by simpa using ha
      have hes : x.es = [] := by
        have := hg.any
        rw [ha'] at this
        simpa using this.symm
      have hta : x.takes o p t := ⟨⟨⟨o1, o2⟩, ⟨p1, p2⟩, t1, t2⟩, fun h9 => absurd h9 ha⟩
      unfold Ix.code Ix.add
      rw [if_pos hta, if_pos hta]
      have hent : x.entry p = true := by unfold Ix.entry; rw [hes]; rfl
      have hput : x.put (o : Int).toNat (p : Int).toNat (t : Int).toNat = ⟨x.every, [⟨o, p, t⟩], true, o, p, t⟩ := by
        simp [Ix.put, hent, ha', hes]
      have hlen : x.es.length = 0 := by rw [hes]; rfl
      have HR : Rf.repV B w b ⟨x.every, [], false, x.lo, x.lp, x.lat⟩ (.slice la x.es.length lc) := by
        rw [← ha', ← hes]; exact h1
      rw [hput, hSS]
      exact radd_first b x.every _ la lc x.lo x.lp x.lat o p t B w hlen HR hB ho hp ht
  · have hnt : ¬ x.takes o p t := fun h9 => hm h9.1
    unfold Ix.code Ix.add
    rw [if_neg hnt, if_neg hnt]
    exact (radd_out ⟨b, 0, none⟩ o p t w hm).mono fun e w' hw => ⟨hw.1, hsame w' hw.2⟩

def ixNew (every : Nat) : Ix := ⟨every, [], false, 0, 0, 0⟩

theorem near_zero : near 0 = 0 := by decide

/-- New, where it makes one. -/
theorem new_yes (n : Int) (w : World) (h1 : 1 ≤ n) (h2 : n ≤ 1000000) (B : Nat) (hB : B ≤ w.heap.size) :
    Calls Try.prog 8 #[.int .i64 n] w fun e w' => e = .returned (.tuple #[.pointer (some ⟨w.heap.size, 0, none⟩), .int .i64 0]) ∧ Fr (fun _ => False) w w' ∧ w'.heap.size = w.heap.size + 1 ∧ Ix.rep B w' w.heap.size (ixNew n.toNat) (fun k => k = w.heap.size) := by
  refine (new_walk n w h1 h2).mono ?_
  rintro e w' ⟨rfl, rfl⟩
  refine ⟨rfl, (Fr.refl _ w).alloc _, by simp, ?_⟩
  refine ⟨.slice none 0 0, .slice none 0 0, ⟨?_, World.ownsRow_nil _ _ _ _, World.ownsRow_nil _ _ _ _, hB, by simp [Value.ownBlock], by simp [Value.ownBlock], by simp [Value.ownBlock]⟩, fun k => by simp [foot, Value.ownBlock]⟩
  rw [heap_alloc_self]
  have hn : ((n.toNat : Nat) : Int) = n := by omega
  simp only [ixCells, ixNew, hn, near_zero]
  rfl
end Go.Proofs.Ytfogmmanebflpaa
