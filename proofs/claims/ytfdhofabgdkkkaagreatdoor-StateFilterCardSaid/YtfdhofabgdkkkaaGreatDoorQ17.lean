/- What a producer was heard with, as a window of what it sent. -/
import Derived.Test.YtfdhofabgdkkkaaGreatDoorQ16
namespace Go.Proofs.YtfdhofabgdkkkaaGreatDoor
open Go.RowKit Go.Fm Go.BigFrame Go.Shelf Go.Maps
set_option linter.unusedVariables false
set_option linter.unusedSimpArgs false
set_option maxRecDepth 100000
/-- One of a window: seq, base, span. -/
abbrev Sent := Int × Int × Int
def winL (r : List Int) (f c : Nat) : List Sent := (List.range c).map fun i => (ringN r f i 0, ringN r f i 1, ringN r f i 2)
def findW (l : List Sent) (b : Bat) : Option Int := (l.reverse.find? fun s => decide (s.1 = b.seq ∧ s.2.2 = b.span)).map (·.2.1)
def nextW (l : List Sent) : Int := match l.getLast? with | none => 0 | some s => s.1 + s.2.2
def pushW (l : List Sent) (s : Sent) : List Sent := (if l.length = 5 then l.tail else l) ++ [s]
theorem winL_len (r : List Int) (f c : Nat) : (winL r f c).length = c := by simp [winL]
theorem winL_succ (r : List Int) (f c : Nat) : winL r f (c + 1) = winL r f c ++ [(ringN r f c 0, ringN r f c 1, ringN r f c 2)] := by
 unfold winL
 rw [List.range_succ, List.map_append]
 rfl
theorem findSent_win (r : List Int) (f : Nat) (b : Bat) : ∀ c, findSent r f b c = findW (winL r f c) b
 | 0 => rfl
 | c + 1 => by
  unfold findSent
  rw [findSent_win r f b c]
  unfold findW
  rw [winL_succ, List.reverse_append]
  by_cases h : ringN r f c 0 = b.seq ∧ ringN r f c 2 = b.span
  ·rw [if_pos h]
   simp [h.1, h.2]
  ·rw [if_neg h]
   rw [List.reverse_singleton, List.singleton_append, List.find?_cons_of_neg (by simpa using h)]
theorem nextI_win (r : List Int) (f c : Nat) : nextI r f c = nextW (winL r f c) := by
 unfold nextI nextW
 cases c with
 | zero => rfl
 | succ c => rw [winL_succ, List.getLast?_append]; simp
theorem getD_set3 (r : List Int) (p q k : Nat) (x y z : Int) (h : r.length = 15) (hp : p < 5) (hk : k < 3) : (wrR r p x y z).getD (q * 3 + k) 0 = if q = p then (if k = 0 then x else if k = 1 then y else z) else r.getD (q * 3 + k) 0 := by
 unfold wrR
 simp only [List.getD_eq_getElem?_getD, List.getElem?_set, List.length_set, h]
 by_cases e : q = p
 ·subst e
  have : k = 0 ∨ k = 1 ∨ k = 2 := by omega
  rcases this with rfl | rfl | rfl
  ·rw [if_neg (by omega), if_neg (by omega), if_pos (by omega), if_pos (by omega)]; simp
  ·rw [if_neg (by omega), if_pos (by omega), if_pos (by omega)]; simp
  ·rw [if_pos (by omega), if_pos (by omega)]; simp
 ·rw [if_neg (by omega), if_neg (by omega), if_neg (by omega), if_neg e]
theorem ringN_wr (r : List Int) (p f i k : Nat) (x y z : Int) (h : r.length = 15) (hp : p < 5) (hk : k < 3) : ringN (wrR r p x y z) f i k = if (f + i) % 5 = p then (if k = 0 then x else if k = 1 then y else z) else ringN r f i k := by
 unfold ringN
 rw [getD_set3 r p _ k x y z h hp hk]
theorem win_less (r : List Int) (f c : Nat) (x y z : Int) (h : r.length = 15) (hc : c < 5) : winL (wrR r ((f + c) % 5) x y z) f (c + 1) = winL r f c ++ [(x, y, z)] := by
 have hp : (f + c) % 5 < 5 := Nat.mod_lt _ (by omega)
 rw [winL_succ]
 congr 1
 ·unfold winL
  refine List.map_congr_left fun i hi => ?_
  have hi := List.mem_range.1 hi
  rw [ringN_wr _ _ _ _ _ _ _ _ h hp (by omega), ringN_wr _ _ _ _ _ _ _ _ h hp (by omega), ringN_wr _ _ _ _ _ _ _ _ h hp (by omega), if_neg (by omega), if_neg (by omega), if_neg (by omega)]
 ·rw [ringN_wr _ _ _ _ _ _ _ _ h hp (by omega), ringN_wr _ _ _ _ _ _ _ _ h hp (by omega), ringN_wr _ _ _ _ _ _ _ _ h hp (by omega)]
  simp
theorem win_full (r : List Int) (f : Nat) (x y z : Int) (h : r.length = 15) : winL (wrR r (((f + 1) % 5 + 4) % 5) x y z) ((f + 1) % 5) 5 = (winL r f 5).tail ++ [(x, y, z)] := by
 rw [win_less r ((f + 1) % 5) 4 x y z h (by omega)]
 congr 1
 unfold winL
 rw [show List.range 5 = 0 :: (List.range 4).map (· + 1) from by decide]
 rw [List.map_cons, List.tail_cons, List.map_map]
 refine List.map_congr_left fun i hi => ?_
 have hi := List.mem_range.1 hi
 have e : ((f + 1) % 5 + i) % 5 = (f + (i + 1)) % 5 := by omega
 simp only [ringN, Function.comp, e]
theorem ring_ok_f {r : List Int} {f : Nat} (h : RingOK r f) (f' : Nat) : RingOK r f' := fun i => by
 have e : (f' + i) % 5 = (f + (f' + i + 4 * f)) % 5 := by omega
 have := h (f' + i + 4 * f)
 simp only [ringN, ← e] at this
 exact this
theorem ring_ok_wr {r : List Int} {f p : Nat} {x y z : Int} (h : RingOK r f) (hl : r.length = 15) (hp : p < 5) (hx : 0 ≤ x ∧ x ≤ 1073741824) (hz : 0 ≤ z ∧ z ≤ 50) (f' : Nat) : RingOK (wrR r p x y z) f' := fun i => by
 have := ring_ok_f h f' i
 rw [ringN_wr _ _ _ _ _ _ _ _ hl hp (by omega), ringN_wr _ _ _ _ _ _ _ _ hl hp (by omega)]
 split
 ·exact ⟨hx, hz⟩
 ·exact this
/-- What Check tells, of an epoch and a window. -/
def chkW (ep : Int) (l : List Sent) (b : Bat) : Int × Bool × Int :=
 if b.epoch < ep then (0, false, 8)
 else if b.epoch = ep then match findW l b with
  | some x => (x, true, 0)
  | none => if b.seq = nextW l then (0, false, 0) else (0, false, 9)
 else if b.seq = 0 then (0, false, 0) else (0, false, 9)
theorem chkF_win (ep : Int) (r : List Int) (f c : Nat) (b : Bat) : chkF ep r f c b = chkW ep (winL r f c) b := by
 unfold chkF chkW
 rw [findSent_win, nextI_win]
 rfl
section
variable {w w' : World} {hb : Nat} {ep : Int} {r : List Int} {f c : Nat}
def AddPost (w : World) (hb : Nat) (ep : Int) (l : List Sent) (s : Sent) (e : Ending) (w' : World) : Prop :=
 e = .returned (.tuple #[]) ∧ (∃ r' f' c', HearA w' hb ep r' f' c' ∧ RingOK r' f' ∧ winL r' f' c' = pushW l s) ∧ Fr (fun i => i = hb) w w'
theorem hadd_walk (h : HearA w hb ep r f c) (hr : RingOK r f) (x y z : Int) (hx : 0 ≤ x ∧ x ≤ 1073741824) (hz : 0 ≤ z ∧ z ≤ 50) : Calls Tryz.prog 138 #[.pointer (some ⟨hb, 0, none⟩), .agg #[.int .i64 x, .int .i64 y, .int .i64 z]] w (AddPost w hb ep (winL r f c) (x, y, z)) := by
 have h5 := h.c5
 by_cases hc : c = 5
 ·subst hc
  refine (hadd_full h x y z).mono ?_
  rintro e w' ⟨rfl, hh, hf⟩
  exact ⟨rfl, ⟨_, _, _, hh, ring_ok_wr hr h.len (Nat.mod_lt _ (by omega)) hx hz _, by rw [win_full _ _ _ _ _ h.len]; unfold pushW; rw [winL_len, if_pos rfl]⟩, hf⟩
 ·refine (hadd_less h (by omega) x y z).mono ?_
  rintro e w' ⟨rfl, hh, hf⟩
  exact ⟨rfl, ⟨_, _, _, hh, ring_ok_wr hr h.len (Nat.mod_lt _ (by omega)) hx hz _, by rw [win_less _ _ _ _ _ _ h.len (by omega)]; unfold pushW; rw [winL_len, if_neg hc]⟩, hf⟩
end
end Go.Proofs.YtfdhofabgdkkkaaGreatDoor
/- What producers have sent: Note. -/
namespace Go.Proofs.YtfdhofabgdkkkaaGreatDoor
open Go.RowKit Go.Fm Go.BigFrame Go.Shelf Go.Maps
set_option linter.unusedVariables false
set_option linter.unusedSimpArgs false
set_option maxRecDepth 100000
section
variable {w w' : World} {pb mb : Nat} {S : Nat → Prop}
/-- What a producer has sent, by its number. -/
abbrev ProdF := Int → Option (Int × List Sent)
def absH (x : Hrd) : Int × List Sent := (x.ep, winL x.r x.f x.c)
def ProdW (w : World) (pb : Nat) (S : Nat → Prop) (n : Nat) (F : ProdF) : Prop :=
 ∃ mb L, ProdA w pb mb L ∧ (∀ x ∈ L, RingOK x.2.r x.2.f) ∧ (∀ i, prodS pb mb L i → S i) ∧ (∀ k, F k = (findH L k).map absH) ∧ L.length ≤ n
theorem ProdW.fr {n : Nat} {F : ProdF} {T : Nat → Prop} (h : ProdW w pb S n F) (hf : Fr T w w') (hS : ∀ i, S i → ¬ T i) : ProdW w' pb S n F := by
 obtain ⟨mb, L, h1, h2, h3, h4⟩ := h
 exact ⟨mb, L, h1.fr hf fun i hi => hS i (h3 i hi), h2, h3, h4⟩
theorem ProdW.old {n : Nat} {F : ProdF} (h : ProdW w pb S n F) (hf : Fr (fun _ => False) w w') : ProdW w' pb S n F := h.fr hf fun _ _ h => h
theorem ProdW.new (h : ProdA w pb mb []) : ProdW w pb (fun i => i = pb ∨ i = mb) 0 (fun _ => none) := by
 refine ⟨mb, [], h, ?_, ?_, fun k => rfl, Nat.le_refl _⟩
 ·intro x hx; cases hx
 ·rintro i (h | h | ⟨x, hx, -⟩)
  ·exact .inl h
  ·exact .inr h
  ·cases hx
open Classical in
noncomputable def chkP (F : ProdF) (b : Bat) : Int × Bool × Int :=
 if b.prod = -1 then (0, false, 0) else if IMay { b with base := 0 } then (match F b.prod with | some p => chkW p.1 p.2 b | none => chkW (-1) [] b) else (0, false, 1)
theorem pcheck_walk {n : Nat} {F : ProdF} (h : ProdW w pb S n F) (b : Bat) (oa : Option Addr) (m cap : Nat) : Calls Tryz.prog 76 #[.pointer (some ⟨pb, 0, none⟩), batV b (.slice oa m cap)] w fun e w' => e = .returned (chkV (chkP F b)) ∧ Fr (fun _ => False) w w' := by
 obtain ⟨mb, L, h1, h2, h3, h4, h5⟩ := h
 refine (icheck_walk h1 h2 b oa m cap).mono ?_
 rintro e w' ⟨rfl, hf⟩
 refine ⟨?_, hf⟩
 congr 2
 unfold chkAll chkP chkL
 rw [h4]
 split
 ·rfl
 ·split
  ·cases findH L b.prod with
   | none => exact chkF_win _ _ _ _ _
   | some x => exact chkF_win _ _ _ _ _
  ·rfl
def updP (F : ProdF) (k : Int) (x : Int × List Sent) : ProdF := fun i => if i = k then some x else F i
open Classical in
noncomputable def noteP (F : ProdF) (b : Bat) : ProdF :=
 if IMay b then
  match F b.prod with
  | some p => if b.epoch < p.1 then F else if b.epoch = p.1 then updP F b.prod (p.1, pushW p.2 (b.seq, b.base, b.span)) else updP F b.prod (b.epoch, [(b.seq, b.base, b.span)])
  | none => updP F b.prod (b.epoch, [(b.seq, b.base, b.span)])
 else F
def NotePost (w : World) (pb : Nat) (S : Nat → Prop) (n : Nat) (F : ProdF) (e : Ending) (w' : World) : Prop :=
 e = .returned (.tuple #[]) ∧ ProdW w' pb (fun i => S i ∨ w.heap.size ≤ i) (n + 1) F ∧ Fr S w w'
theorem prodW_more {n m : Nat} {F : ProdF} {T : Nat → Prop} (h : ProdW w pb S n F) (hT : ∀ i, S i → T i) (hn : n ≤ m) : ProdW w pb T m F := by
 obtain ⟨mb, L, h1, h2, h3, h4, h5⟩ := h
 exact ⟨mb, L, h1, h2, fun i hi => hT i (h3 i hi), h4, by omega⟩
end
section
variable {w w' : World} {pb mb : Nat} {S : Nat → Prop}
theorem findH_cons (k : Int) (x : Hrd) (L : List (Int × Hrd)) (i : Int) : findH ((k, x) :: L.filter fun r => r.1 ≠ k) i = if i = k then some x else findH L i := by
 unfold findH
 by_cases e : i = k
 ·subst e; simp
 ·rw [List.find?_cons_of_neg (by simp; exact fun h => e h.symm), if_neg e]
  congr 1
  induction L with
  | nil => rfl
  | cons y r ih =>
   by_cases h1 : y.1 = k
   ·rw [List.filter_cons_of_neg (by simpa using h1), ih, List.find?_cons_of_neg (by simp [h1]; exact fun h => e h.symm)]
   ·rw [List.filter_cons_of_pos (by simpa using h1)]
    by_cases h2 : y.1 = i
    ·simp [h2]
    ·rw [List.find?_cons_of_neg (by simpa using h2), List.find?_cons_of_neg (by simpa using h2), ih]
/-- One producer's ring is another one. -/
def setH (L : List (Int × Hrd)) (k : Int) (x : Hrd) : List (Int × Hrd) := L.map fun r => if r.1 = k then (k, x) else r
theorem findH_set {k : Int} {x y : Hrd} {L : List (Int × Hrd)} (h : findH L k = some y) (i : Int) : findH (setH L k x) i = if i = k then some x else findH L i := by
 unfold findH setH at *
 induction L with
 | nil => simp at h
 | cons z r ih =>
  by_cases h1 : z.1 = k
  ·by_cases e : i = k
   ·subst e; simp [h1]
   ·rw [List.map_cons, if_pos h1, if_neg e, List.find?_cons_of_neg (by simp; exact fun h => e h.symm), List.find?_cons_of_neg (by simp [h1]; exact fun h => e h.symm)]
    clear ih h
    congr 1
    induction r with
    | nil => rfl
    | cons u r ih =>
     by_cases h2 : u.1 = k
     ·rw [List.map_cons, if_pos h2, List.find?_cons_of_neg (by simp; exact fun h => e h.symm), List.find?_cons_of_neg (by simp [h2]; exact fun h => e h.symm), ih]
     ·rw [List.map_cons, if_neg h2]
      by_cases h3 : u.1 = i
      ·simp [h3]
      ·rw [List.find?_cons_of_neg (by simpa using h3), List.find?_cons_of_neg (by simpa using h3), ih]
  ·rw [List.find?_cons_of_neg (by simpa using h1)] at h
   rw [List.map_cons, if_neg h1]
   by_cases h2 : z.1 = i
   ·rw [if_neg (by rw [← h2]; exact h1)]; simp [h2]
   ·rw [List.find?_cons_of_neg (by simpa using h2), List.find?_cons_of_neg (by simpa using h2), ih h]
theorem setH_rows {k : Int} {x y : Hrd} {L : List (Int × Hrd)} (hn : (L.map (·.1)).Nodup) (h : findH L k = some y) (hb : x.hb = y.hb) : hrows (setH L k x) = hrows L := by
 unfold hrows setH
 rw [List.map_map]
 refine List.map_congr_left fun r hr => ?_
 simp only [Function.comp]
 split
 ·rename_i e
  have hm := findH_mem h
  have : r = (k, y) := by
   have h1 := List.nodup_iff_pairwise_ne.1 hn
   obtain ⟨i, hi⟩ := List.mem_iff_getElem?.1 hr
   obtain ⟨j, hj⟩ := List.mem_iff_getElem?.1 hm
   by_cases hij : i = j
   ·subst hij; rw [hi] at hj; exact Option.some.inj hj
   ·exfalso
    have a1 : (L.map (·.1))[i]? = some k := by rw [List.getElem?_map, hi]; simp [e]
    have a2 : (L.map (·.1))[j]? = some k := by rw [List.getElem?_map, hj]; rfl
    obtain ⟨l1, e1⟩ := List.getElem?_eq_some_iff.1 a1
    obtain ⟨l2, e2⟩ := List.getElem?_eq_some_iff.1 a2
    exact hij ((List.getElem_inj hn).1 (e1.trans e2.symm))
  subst this
  simp [hptr, hb]
 ·rfl
theorem hb_ne {L : List (Int × Hrd)} (hn : (L.map (·.2.hb)).Nodup) {x y : Int × Hrd} (hx : x ∈ L) (hy : y ∈ L) (h : x.1 ≠ y.1) : x.2.hb ≠ y.2.hb := by
 intro e
 obtain ⟨i, hi⟩ := List.mem_iff_getElem?.1 hx
 obtain ⟨j, hj⟩ := List.mem_iff_getElem?.1 hy
 by_cases hij : i = j
 ·subst hij; rw [hi] at hj; exact h (by rw [Option.some.inj hj])
 ·have a1 : (L.map (·.2.hb))[i]? = some x.2.hb := by rw [List.getElem?_map, hi]; rfl
  have a2 : (L.map (·.2.hb))[j]? = some x.2.hb := by rw [List.getElem?_map, hj, e]; rfl
  obtain ⟨l1, e1⟩ := List.getElem?_eq_some_iff.1 a1
  obtain ⟨l2, e2⟩ := List.getElem?_eq_some_iff.1 a2
  exact hij ((List.getElem_inj hn).1 (e1.trans e2.symm))
theorem ProdA.keys {L : List (Int × Hrd)} (h : ProdA w pb mb L) : (L.map (·.1)).Nodup := by
 have := h.m.1.nodup
 unfold hrows at this
 rw [List.map_map] at this
 exact this
/-- A producer's ring has turned. -/
theorem ProdA.turn {L : List (Int × Hrd)} (h : ProdA w pb mb L) {k : Int} {x : Hrd} (hk : findH L k = some x) (hf : Fr (fun i => i = x.hb) w w') {ep : Int} {r : List Int} {f c : Nat} (hh : HearA w' x.hb ep r f c) :
  ProdA w' pb mb (setH L k ⟨x.hb, ep, r, f, c⟩) := by
 have hm := findH_mem hk
 obtain ⟨-, n1, n2⟩ := h.el _ hm
 refine ⟨(hf.block pb (lt_of_heap h.b) (fun e => n1 e.symm)).trans h.b, ?_, h.ne, ?_, ?_⟩
 ·rw [setH_rows h.keys hk (show (⟨x.hb, ep, r, f, c⟩ : Hrd).hb = x.hb from rfl)]
  exact h.m.fr hf fun e => n2 e.symm
 ·intro y hy
  unfold setH at hy
  obtain ⟨z, hz, rfl⟩ := List.mem_map.1 hy
  by_cases e : z.1 = k
  ·rw [if_pos e]; exact ⟨hh, n1, n2⟩
  ·rw [if_neg e]
   exact ⟨(h.el z hz).1.fr hf (hb_ne h.ap hz hm e), (h.el z hz).2⟩
 ·have : (setH L k ⟨x.hb, ep, r, f, c⟩).map (·.2.hb) = L.map (·.2.hb) := by
   unfold setH
   rw [List.map_map]
   refine List.map_congr_left fun y hy => ?_
   simp only [Function.comp]
   split
   ·rename_i e
    by_cases e2 : y.2.hb = x.hb
    ·exact e2.symm
    ·have h1 := List.nodup_iff_pairwise_ne.1 h.keys
     obtain ⟨i, hi⟩ := List.mem_iff_getElem?.1 hy
     obtain ⟨j, hj⟩ := List.mem_iff_getElem?.1 hm
     by_cases hij : i = j
     ·subst hij; rw [hi] at hj; rw [Option.some.inj hj]
     ·exfalso
      have a1 : (L.map (·.1))[i]? = some k := by rw [List.getElem?_map, hi]; simp [e]
      have a2 : (L.map (·.1))[j]? = some k := by rw [List.getElem?_map, hj]; rfl
      obtain ⟨l1, e1⟩ := List.getElem?_eq_some_iff.1 a1
      obtain ⟨l2, e2⟩ := List.getElem?_eq_some_iff.1 a2
      exact hij ((List.getElem_inj h.keys).1 (e1.trans e2.symm))
   ·rfl
  rw [this]; exact h.ap
theorem hrows_put (L : List (Int × Hrd)) (k : Int) (x : Hrd) : hrows ((k, x) :: L.filter fun r => r.1 ≠ k) = putG (hrows L) k (hptr x) := by
 unfold hrows putG
 rw [List.map_cons, List.filter_map]
 rfl
/-- A producer that was not heard, or of an older epoch, stands anew. -/
theorem ProdA.anew {L : List (Int × Hrd)} (h : ProdA w pb mb L) {k : Int} {x : Hrd} (hm : MapG intK w' mb (putG (hrows L) k (hptr x))) (hf : Fr (fun i => i = mb) w w') (hh : HearA w' x.hb x.ep x.r x.f x.c)
  (h1 : x.hb ≠ pb) (h2 : x.hb ≠ mb) (h3 : ∀ y ∈ L, y.2.hb ≠ x.hb) : ProdA w' pb mb ((k, x) :: L.filter fun r => r.1 ≠ k) := by
 refine ⟨(hf.block pb (lt_of_heap h.b) h.ne).trans h.b, by rw [hrows_put]; exact hm, h.ne, ?_, ?_⟩
 ·intro y hy
  rcases List.mem_cons.1 hy with rfl | hy
  ·exact ⟨hh, h1, h2⟩
  ·have hy := (List.mem_filter.1 hy).1
   exact ⟨(h.el y hy).1.fr hf (h.el y hy).2.2, (h.el y hy).2⟩
 ·rw [List.map_cons, List.nodup_cons]
  refine ⟨fun hm => ?_, h.ap.sublist (List.filter_sublist.map _)⟩
  obtain ⟨y, hy, e⟩ := List.mem_map.1 hm
  exact h3 y (List.mem_filter.1 hy).1 e
end
end Go.Proofs.YtfdhofabgdkkkaaGreatDoor
