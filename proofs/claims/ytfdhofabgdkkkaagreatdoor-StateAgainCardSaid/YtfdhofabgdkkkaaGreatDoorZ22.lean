/- What a producer was heard with, as a window of what it sent. -/
import Derived.Test.YtfdhofabgdkkkaaGreatDoorZ21
namespace Go.Proofs.YtfdhofabgdkkkaaGreatDoor
open Go.RowKit Go.Fm Go.BigFrame Go.Shelf Go.Maps
set_option linter.unusedVariables false
set_option linter.unusedSimpArgs false
set_option maxRecDepth 100000
/-- One of a window: seq, base, span. -/
abbrev Sent := Int × Int × Int
def winL (r : List Int) (f c : Nat) : List Sent := (List.range c).map fun i => (ringN r f i 0, ringN r f i 1, ringN r f i 2)
def findW (l : List Sent) (b : Bat) : Option Int := (l.reverse.find? fun s => decide (s.1 = b.seq ∧ s.2.2 = b.span)).map (·.2.1)
def nextW (l : List Sent) : Int := match l.getLast? with | none => 0 | some s => s.1 + s.2.2
def pushW (l : List Sent) (s : Sent) : List Sent := (if l.length = 5 then l.tail else l) ++ [s]
theorem winL_len (r : List Int) (f c : Nat) : (winL r f c).length = c := by simp [winL]
theorem winL_succ (r : List Int) (f c : Nat) : winL r f (c + 1) = winL r f c ++ [(ringN r f c 0, ringN r f c 1, ringN r f c 2)] := by
 unfold winL
 rw [List.range_succ, List.map_append]
 rfl
theorem findSent_win (r : List Int) (f : Nat) (b : Bat) : ∀ c, findSent r f b c = findW (winL r f c) b
 | 0 => rfl
 | c + 1 => by
  unfold findSent
  rw [findSent_win r f b c]
  unfold findW
  rw [winL_succ, List.reverse_append]
  by_cases h : ringN r f c 0 = b.seq ∧ ringN r f c 2 = b.span
  ·rw [if_pos h]
   simp [h.1, h.2]
  ·rw [if_neg h]
   rw [List.reverse_singleton, List.singleton_append, List.find?_cons_of_neg (by simpa using h)]
theorem nextI_win (r : List Int) (f c : Nat) : nextI r f c = nextW (winL r f c) := by
 unfold nextI nextW
 cases c with
 | zero => rfl
 | succ c => rw [winL_succ, List.getLast?_append]; simp
theorem getD_set3 (r : List Int) (p q k : Nat) (x y z : Int) (h : r.length = 15) (hp : p < 5) (hk : k < 3) : (wrR r p x y z).getD (q * 3 + k) 0 = if q = p then (if k = 0 then x else if k = 1 then y else z) else r.getD (q * 3 + k) 0 := by
 unfold wrR
 simp only [List.getD_eq_getElem?_getD, List.getElem?_set, List.length_set, h]
 by_cases e : q = p
 ·subst e
  have : k = 0 ∨ k = 1 ∨ k = 2 := by omega
  rcases this with rfl | rfl | rfl
  ·rw [if_neg (by omega), if_neg (by omega), if_pos (by omega), if_pos (by omega)]; simp
  ·rw [if_neg (by omega), if_pos (by omega), if_pos (by omega)]; simp
  ·rw [if_pos (by omega), if_pos (by omega)]; simp
 ·rw [if_neg (by omega), if_neg (by omega), if_neg (by omega), if_neg e]
theorem ringN_wr (r : List Int) (p f i k : Nat) (x y z : Int) (h : r.length = 15) (hp : p < 5) (hk : k < 3) : ringN (wrR r p x y z) f i k = if (f + i) % 5 = p then (if k = 0 then x else if k = 1 then y else z) else ringN r f i k := by
 unfold ringN
 rw [getD_set3 r p _ k x y z h hp hk]
theorem win_less (r : List Int) (f c : Nat) (x y z : Int) (h : r.length = 15) (hc : c < 5) : winL (wrR r ((f + c) % 5) x y z) f (c + 1) = winL r f c ++ [(x, y, z)] := by
 have hp : (f + c) % 5 < 5 := Nat.mod_lt _ (by omega)
 rw [winL_succ]
 congr 1
 ·unfold winL
  refine List.map_congr_left fun i hi => ?_
  have hi := List.mem_range.1 hi
  rw [ringN_wr _ _ _ _ _ _ _ _ h hp (by omega), ringN_wr _ _ _ _ _ _ _ _ h hp (by omega), ringN_wr _ _ _ _ _ _ _ _ h hp (by omega), if_neg (by omega), if_neg (by omega), if_neg (by omega)]
 ·rw [ringN_wr _ _ _ _ _ _ _ _ h hp (by omega), ringN_wr _ _ _ _ _ _ _ _ h hp (by omega), ringN_wr _ _ _ _ _ _ _ _ h hp (by omega)]
  simp
theorem win_full (r : List Int) (f : Nat) (x y z : Int) (h : r.length = 15) : winL (wrR r (((f + 1) % 5 + 4) % 5) x y z) ((f + 1) % 5) 5 = (winL r f 5).tail ++ [(x, y, z)] := by
 rw [win_less r ((f + 1) % 5) 4 x y z h (by omega)]
 congr 1
 unfold winL
 rw [show List.range 5 = 0 :: (List.range 4).map (· + 1) from by decide]
 rw [List.map_cons, List.tail_cons, List.map_map]
 refine List.map_congr_left fun i hi => ?_
 have hi := List.mem_range.1 hi
 have e : ((f + 1) % 5 + i) % 5 = (f + (i + 1)) % 5 := by omega
 simp only [ringN, Function.comp, e]
theorem ring_ok_f {r : List Int} {f : Nat} (h : RingOK r f) (f' : Nat) : RingOK r f' := fun i => by
 have e : (f' + i) % 5 = (f + (f' + i + 4 * f)) % 5 := by omega
 have := h (f' + i + 4 * f)
 simp only [ringN, ← e] at this
 exact this
theorem ring_ok_wr {r : List Int} {f p : Nat} {x y z : Int} (h : RingOK r f) (hl : r.length = 15) (hp : p < 5) (hx : 0 ≤ x ∧ x ≤ 1073741824) (hz : 0 ≤ z ∧ z ≤ 50) (f' : Nat) : RingOK (wrR r p x y z) f' := fun i => by
 have := ring_ok_f h f' i
 rw [ringN_wr _ _ _ _ _ _ _ _ hl hp (by omega), ringN_wr _ _ _ _ _ _ _ _ hl hp (by omega)]
 split
 ·exact ⟨hx, hz⟩
 ·exact this
/-- What Check tells, of an epoch and a window. -/
def chkW (ep : Int) (l : List Sent) (b : Bat) : Int × Bool × Int :=
 if b.epoch < ep then (0, false, 8)
 else if b.epoch = ep then match findW l b with
  | some x => (x, true, 0)
  | none => if b.seq = nextW l then (0, false, 0) else (0, false, 9)
 else if b.seq = 0 then (0, false, 0) else (0, false, 9)
theorem chkF_win (ep : Int) (r : List Int) (f c : Nat) (b : Bat) : chkF ep r f c b = chkW ep (winL r f c) b := by
 unfold chkF chkW
 rw [findSent_win, nextI_win]
 rfl
section
variable {w w' : World} {hb : Nat} {ep : Int} {r : List Int} {f c : Nat}
def AddPost (w : World) (hb : Nat) (ep : Int) (l : List Sent) (s : Sent) (e : Ending) (w' : World) : Prop :=
 e = .returned (.tuple #[]) ∧ (∃ r' f' c', HearA w' hb ep r' f' c' ∧ RingOK r' f' ∧ winL r' f' c' = pushW l s) ∧ Fr (fun i => i = hb) w w'
theorem hadd_walk (h : HearA w hb ep r f c) (hr : RingOK r f) (x y z : Int) (hx : 0 ≤ x ∧ x ≤ 1073741824) (hz : 0 ≤ z ∧ z ≤ 50) : Calls Tryz.prog 138 #[.pointer (some ⟨hb, 0, none⟩), .agg #[.int .i64 x, .int .i64 y, .int .i64 z]] w (AddPost w hb ep (winL r f c) (x, y, z)) := by
 have h5 := h.c5
 by_cases hc : c = 5
 ·subst hc
  refine (hadd_full h x y z).mono ?_
  rintro e w' ⟨rfl, hh, hf⟩
  exact ⟨rfl, ⟨_, _, _, hh, ring_ok_wr hr h.len (Nat.mod_lt _ (by omega)) hx hz _, by rw [win_full _ _ _ _ _ h.len]; unfold pushW; rw [winL_len, if_pos rfl]⟩, hf⟩
 ·refine (hadd_less h (by omega) x y z).mono ?_
  rintro e w' ⟨rfl, hh, hf⟩
  exact ⟨rfl, ⟨_, _, _, hh, ring_ok_wr hr h.len (Nat.mod_lt _ (by omega)) hx hz _, by rw [win_less _ _ _ _ _ _ h.len (by omega)]; unfold pushW; rw [winL_len, if_neg hc]⟩, hf⟩
end
end Go.Proofs.YtfdhofabgdkkkaaGreatDoor
