/- A drawn region in which one allocation may come at any time: beside calls that leave what was there. -/
import Derived.Test.YtdgdhegbcjimbaaLoc
namespace Go.Lcl
open Go
set_option linter.unusedVariables false
section
variable {P : Program} {ops : Array Oper} {Q : Exit → Act → World → Prop}

/-- No operation of B looks at what another of B writes, unless it waits for that. -/
def apartD (ops : Array Oper) (B : List (Bool × Nat)) : Bool :=
  B.all fun x => match ops[x.2]? with
    | none => false
    | some oi => (List.range ops.size).all fun j => j == x.2 || match ops[j]? with
        | none => true
        | some oj => if isIn B j then hasEdge oj x.2 || (match oi.dst with | some t => !(oj.looksAt ops).contains t | none => true) else true
theorem apartD_spec {B : List (Bool × Nat)} (h : apartD ops B = true) {x : Bool × Nat} (hx : x ∈ B) {oi : Oper} (hi : ops[x.2]? = some oi) {j : Nat} {oj : Oper} (hj : ops[j]? = some oj) (hne : j ≠ x.2)
    (hin : j ∈ B.map (·.2)) (hno : hasEdge oj x.2 = false) (t : Tmp) (ht : oi.dst = some t) : t ∉ oj.looksAt ops := by
  unfold apartD at h
  have h1 := List.all_eq_true.1 h x hx
  simp only [hi] at h1
  have hlt : j < ops.size := by
    rcases Nat.lt_or_ge j ops.size with h' | h'
    · exact h'
    · simp [Array.getElem?_eq_none h'] at hj
  have h2 := List.all_eq_true.1 h1 j (List.mem_range.2 hlt)
  simp only [hj, hno, Bool.false_or, ht] at h2
  rw [if_pos (mem_isIn.2 hin)] at h2
  simpa [hne] using h2
def okD (ops : Array Oper) (B : List (Bool × Nat)) (m : Array Nat) : Bool := Region.noSelect ops && topo ops [] B && apartD ops B && selfB ops B && waitsB ops B m && B.all fun x => !x.1

/-- What the walk shows: a value for each, in the frame that they all have written. -/
theorem wpQ2_valsD {C : World → Prop} {K : Act → Prop} (hns : Region.noSelect ops = true) (Ball : List (Bool × Nat)) (hap : apartD ops Ball = true) (hself : selfB ops Ball = true) :
    ∀ (B : List (Bool × Nat)) (seen : List Nat) (a : Act), (∀ x ∈ B, x ∈ Ball) → topo ops seen B = true → wpQ2 P ops C K (B.map fun x => (x.1, (ops[x.2]?).getD default)) a →
    ∃ vals : Nat → Value, K (runTo ops vals (fun _ => true) (B.map (·.2)) a) ∧ ∀ x ∈ B, ∀ o, ops[x.2]? = some o → Y2 P ops C x.1 o (vals x.2) (runTo ops vals (fun _ => true) (B.map (·.2)) a) := by
  intro B
  induction B with
  | nil => intro seen a _ _ h; exact ⟨fun _ => undef, h, by simp⟩
  | cons x r ih =>
    intro seen a hsub ht h
    obtain ⟨hnd, -, hex, htp⟩ := topo_spec (x :: r) seen ht
    obtain ⟨o, ho⟩ := hex x (by simp)
    have ht2 : topo ops (x.2 :: seen) r = true := by
      obtain ⟨pl, i⟩ := x
      simp only [topo, Bool.and_eq_true] at ht
      exact ht.2
    simp only [List.map_cons, ho, Option.getD_some, wpQ2] at h
    obtain ⟨v, hy, hrest⟩ := h
    obtain ⟨vals, hK, hall⟩ := ih _ _ (fun y hy => hsub y (by simp [hy])) ht2 hrest
    simp only [List.map_cons, List.nodup_cons] at hnd
    have hcong : ∀ a', runTo ops (fun k => if k = x.2 then v else vals k) (fun _ => true) (r.map (·.2)) a' = runTo ops vals (fun _ => true) (r.map (·.2)) a' := by
      intro a'
      have : ∀ (l : List Nat) (a' : Act), x.2 ∉ l → runTo ops (fun k => if k = x.2 then v else vals k) (fun _ => true) l a' = runTo ops vals (fun _ => true) l a' := by
        intro l
        induction l with
        | nil => intro a' _; rfl
        | cons k l ihl =>
          intro a' hk
          simp only [List.mem_cons, not_or] at hk
          simp only [runTo, if_neg (Ne.symm hk.1)]
          exact ihl _ hk.2
      exact this _ _ hnd.1
    have hd : dstAt ops x.2 = o.dst := by simp [dstAt, ho]
    have hrun : runTo ops (fun k => if k = x.2 then v else vals k) (fun _ => true) ((x :: r).map (·.2)) a = runTo ops vals (fun _ => true) (r.map (·.2)) (a.put o.dst v) := by
      simp only [List.map_cons, runTo, if_true, hd]
      exact hcong _
    refine ⟨fun k => if k = x.2 then v else vals k, by rw [hrun]; exact hK, ?_⟩
    intro y hy' oy hoy
    rw [hrun]
    rcases List.mem_cons.1 hy' with rfl | hyr
    · rw [ho] at hoy
      cases hoy
      simp only [if_true]
      have hs := Region.noSelect_spec hns
      refine hy.agr (fun cs b => hs _ _ cs b ho) ?_
      have hl := hself
      refine Agr.symm ?_
      have e0 : a = runTo ops vals (fun _ => false) (r.map (·.2)) a := by
        have : ∀ l : List Nat, runTo ops vals (fun _ => false) l a = a := by
          intro l
          induction l with
          | nil => rfl
          | cons k l ihl => simpa [runTo] using ihl
        exact (this _).symm
      rw [e0]
      have e1 : runTo ops vals (fun _ => true) (r.map (·.2)) (runTo ops vals (fun _ => false) (r.map (·.2)) a |>.put o.dst v) = runTo ops vals (fun _ => true) (r.map (·.2)) (a.put o.dst v) := by rw [← e0]
      rw [e1]
      refine runTo_agr _ vals _ _ _ ((Agr.refl _ _).symm.put_left v (fun t ht' => (selfB_spec hself (hsub y (by simp)) ho).1 t ht') |>.symm) ?_
      intro k hk _ t hkt
      obtain ⟨z, hz, rfl⟩ := List.mem_map.1 hk
      obtain ⟨oz, hoz⟩ := hex z (by simp [hz])
      have hne : y.2 ≠ z.2 := fun e => hnd.1 (by rw [e]; exact List.mem_map.2 ⟨z, hz, rfl⟩)
      have hno : hasEdge o z.2 = false := by
        rw [← Bool.not_eq_true]
        intro he
        obtain ⟨e, hee, h2⟩ := List.any_eq_true.1 he
        simp only [Bool.and_eq_true, beq_iff_eq] at h2
        rcases htp [] y r rfl o ho e (Array.mem_toList_iff.1 hee) h2.1 with h3 | h3
        · have := (topo_spec r _ ht2).2.1 z hz
          rw [h2.2] at h3
          exact this (by simp [h3])
        · cases h3
      exact apartD_spec hap (hsub z (by simp [hz])) hoz ho hne (List.mem_map.2 ⟨y, hsub y (by simp), rfl⟩) hno t (by simpa [dstAt, hoz] using hkt)
    · have hne : y.2 ≠ x.2 := fun e => hnd.1 (by rw [← e]; exact List.mem_map.2 ⟨y, hyr, rfl⟩)
      simp only [if_neg hne]
      exact hall y hyr oy hoy

theorem runTo_append (vals : Nat → Value) (D : Nat → Bool) : ∀ (l r : List Nat) (a : Act), runTo ops vals D (l ++ r) a = runTo ops vals D r (runTo ops vals D l a)
  | [], _, _ => rfl
  | i :: l, r, a => by simp only [List.cons_append, runTo]; exact runTo_append vals D l r _

theorem runTo_vals {vals vals' : Nat → Value} {D : Nat → Bool} : ∀ (l : List Nat) (a : Act), (∀ i ∈ l, D i = true → vals i = vals' i) → runTo ops vals D l a = runTo ops vals' D l a
  | [], _, _ => rfl
  | i :: l, a, h => by
    simp only [runTo]
    by_cases hi : D i = true
    · rw [if_pos hi, if_pos hi, h i (by simp) hi]; exact runTo_vals l _ fun k hk => h k (by simp [hk])
    · rw [if_neg hi, if_neg hi]; exact runTo_vals l _ fun k hk => h k (by simp [hk])

theorem put_size (a : Act) (d : Option Tmp) (v : Value) : (a.put d v).tmps.size = a.tmps.size := by cases d <;> simp [Act.put]
theorem runTo_size (vals : Nat → Value) (D : Nat → Bool) : ∀ (l : List Nat) (a : Act), (runTo ops vals D l a).tmps.size = a.tmps.size
  | [], _ => rfl
  | i :: l, a => by
    simp only [runTo]
    rw [runTo_size vals D l]
    split
    · exact put_size _ _ _
    · rfl
theorem runTo_keep (vals : Nat → Value) (D : Nat → Bool) {t : Tmp} : ∀ (l : List Nat) (a : Act), (∀ i ∈ l, dstAt ops i ≠ some t) → (runTo ops vals D l a).tmps[t]? = a.tmps[t]?
  | [], _, _ => rfl
  | i :: l, a, h => by
    simp only [runTo]
    rw [runTo_keep vals D l _ fun k hk => h k (by simp [hk])]
    split
    · have := h i (by simp)
      cases hd : dstAt ops i with
      | none => rfl
      | some u =>
        rw [hd] at this
        have hne : u ≠ t := fun e => this (by rw [e])
        simp only [Act.put, Array.getElem?_setIfInBounds_ne hne]
    · rfl
theorem runTo_get (vals : Nat → Value) {t : Tmp} : ∀ (l : List Nat) (a : Act), Dsts ops l → ∀ i ∈ l, dstAt ops i = some t → t < a.tmps.size → (runTo ops vals (fun _ => true) l a).tmps[t]? = some (vals i)
  | [], _, _, _, h, _, _ => by cases h
  | k :: l, a, hd, i, hi, ht, hs => by
    have hd' := List.pairwise_cons.1 hd
    simp only [runTo, if_true]
    rcases List.mem_cons.1 hi with rfl | hi
    · rw [runTo_keep vals _ l _ fun j hj => hd'.1 j hj t ht, ht]
      simp only [Act.put, Array.getElem?_setIfInBounds_self, hs, if_true]
    · exact runTo_get vals l _ hd'.2 i hi ht (by rw [put_size]; exact hs)
/-- Two values that a slot takes alike. -/
theorem put_same {d : Option Tmp} {u v : Value} {a : Act} (h : ∀ t, d = some t → t < a.tmps.size → u = v) : a.put d u = a.put d v := by
  cases d with
  | none => rfl
  | some t =>
    by_cases ht : t < a.tmps.size
    · rw [h t rfl ht]
    · simp only [Act.put, Array.setIfInBounds_eq_of_size_le (Nat.le_of_not_lt ht)]

theorem topo_prefix : ∀ (B C : List (Bool × Nat)) (seen : List Nat), topo ops seen (B ++ C) = true → topo ops seen B = true
  | [], _, _, _ => rfl
  | (p, i) :: B, C, seen, h => by
    simp only [List.cons_append, topo, Bool.and_eq_true] at h ⊢
    exact ⟨h.1, topo_prefix B C _ h.2⟩

theorem wpAny_quiet_alloc {R : World → World → Prop} (hrefl : ∀ w, R w w) (htrans : ∀ a b c, R a b → R b c → R a c) {B : List (Bool × Nat)} {x : Nat} {ox : Oper} {m : Array Nat}
    (hok : okD ops (B ++ [(false, x)]) m = true) (hox : ops[x]? = some ox) {a0 afin : Act} {fuel : Nat} {final : Array Bool}
    (hQ : ∀ d c a v w, Q (.panic c) (Act.put a d v) w → Q (.panic c) a w) (hfin : mark (Array.replicate ops.size false) ((B ++ [(false, x)]).map (·.2)) = final)
    {A : World → World} {px : World → Value} (hA : ∀ w, R w (A w)) (hx : ∀ (K : Act → World → Prop) (a : Act) (w : World), K (a.put ox.dst (px w)) (A w) → wpOp P ops Q x K a w)
    {w : World} (hlex : ∀ w1, R w w1 → wpQ2 P ops (R w1) (fun a' => a' = afin) (B.map fun x => (x.1, (ops[x.2]?).getD default)) a0)
    (hK : ∀ wx w', R w wx → R (A wx) w' → wpAny P .any ops Q fuel final (afin.put ox.dst (px wx)) w') :
    wpAny P .any ops Q ((B ++ [(false, x)]).length + fuel) (Array.replicate ops.size false) a0 w := by
  unfold okD at hok
  simp only [Bool.and_eq_true] at hok
  obtain ⟨⟨⟨⟨⟨hns, htopo⟩, hap⟩, hself⟩, hwait⟩, hflag⟩ := hok
  have htopoB := topo_prefix B _ [] htopo
  have hvals : ∀ w1, R w w1 → ∃ vals : Nat → Value, runTo ops vals (fun _ => true) (B.map (·.2)) a0 = afin ∧ ∀ y ∈ B, ∀ o, ops[y.2]? = some o → Y2 P ops (R w1) y.1 o (vals y.2) afin := fun w1 h1 => by
    obtain ⟨vals, h2, h3⟩ := wpQ2_valsD hns (B ++ [(false, x)]) hap hself B [] a0 (fun y hy => List.mem_append_left _ hy) htopoB (hlex w1 h1)
    exact ⟨vals, h2, fun y hy o ho => by rw [← h2]; exact h3 y hy o ho⟩
  obtain ⟨vals, hrun, -⟩ := hvals w (hrefl w)
  obtain ⟨hnd, -, hex, htp⟩ := topo_spec (B ++ [(false, x)]) [] htopo
  obtain ⟨hw1, hw2⟩ := waits_spec hwait
  have hsel := Region.noSelect_spec hns
  obtain ⟨B', hB'⟩ : ∃ B', B' = B ++ [(false, x)] := ⟨_, rfl⟩
  have hmapB : B'.map (·.2) = B.map (·.2) ++ [x] := by rw [hB']; simp
  have hxB : x ∉ B.map (·.2) := by
    rw [← hB', hmapB] at hnd
    have := (List.nodup_append.1 hnd).2.2
    exact fun h => this x h x (by simp) rfl
  -- no operation of B waits for x
  have hnox : ∀ y ∈ B, ∀ o, ops[y.2]? = some o → hasEdge o x = false := by
    intro y hy o ho
    rw [← Bool.not_eq_true]
    intro he
    obtain ⟨e, hee, h2⟩ := List.any_eq_true.1 he
    simp only [Bool.and_eq_true, beq_iff_eq] at h2
    obtain ⟨pre, post, hB⟩ := List.append_of_mem hy
    obtain ⟨-, -, -, htp2⟩ := topo_spec B [] htopoB
    rcases htp2 pre y post hB o ho e (Array.mem_toList_iff.1 hee) h2.1 with h3 | h3
    · cases h3
    · rw [h2.2] at h3
      refine hxB ?_
      rw [hB, List.map_append]
      exact List.mem_append_left _ h3
  rw [← hB'] at hnd hex htp hw1 hw2 hap hself hfin hflag ⊢
  have hD : Dsts ops (B'.map (·.2)) := by
    unfold Dsts
    refine List.pairwise_map.2 ?_
    have : ∀ L : List (Bool × Nat), (∀ x ∈ L, x ∈ B') → (L.map (·.2)).Nodup → L.Pairwise fun x y => ∀ t, dstAt ops x.2 = some t → dstAt ops y.2 ≠ some t := by
      intro L
      induction L with
      | nil => intro _ _; exact List.Pairwise.nil
      | cons x r ih =>
        intro hsub hn
        simp only [List.map_cons, List.nodup_cons] at hn
        refine List.pairwise_cons.2 ⟨fun y hy t ht => ?_, ih (fun z hz => hsub z (by simp [hz])) hn.2⟩
        obtain ⟨o, ho⟩ := hex x (hsub x (by simp))
        exact (selfB_spec hself (hsub x (by simp)) ho).2 y (hsub y (by simp [hy])) (fun e => hn.1 (by rw [← e]; exact List.mem_map.2 ⟨y, hy, rfl⟩)) t (by simpa [dstAt, ho] using ht)
    exact this B' (fun _ h => h) hnd
  have hDB : Dsts ops (B.map (·.2)) := by
    have := hD
    unfold Dsts at this ⊢
    rw [hmapB] at this
    exact (List.pairwise_append.1 this).1
  have hlist : ∀ listed : Array Bool, listed.size = ops.size → (∀ j, listed.getD j false = true → j ∈ B'.map (·.2)) → numOf B' listed = 0 → listed = final := by
    intro listed hs hin h0
    rw [← hfin]
    have hB : ∀ j ∈ B'.map (·.2), listed.getD j false = true := by
      intro j hj
      obtain ⟨x, hx, rfl⟩ := List.mem_map.1 hj
      have h1 := List.length_eq_zero_iff.1 h0
      have h2 := List.filter_eq_nil_iff.1 h1 x hx
      simpa using h2
    have hmk : ∀ (is : List Nat) (l : Array Bool) , (mark l is).size = l.size ∧ ∀ j, j < l.size → (mark l is).getD j false = (decide (j ∈ is) || l.getD j false) := by
      intro is
      induction is with
      | nil => intro l; exact ⟨rfl, fun j _ => by simp [mark]⟩
      | cons i r ih =>
        intro l
        have h1 := ih (l.setIfInBounds i true)
        refine ⟨by simpa [mark] using h1.1, fun j hj => ?_⟩
        have h2 := h1.2 j (by simpa using hj)
        show (mark (l.setIfInBounds i true) r).getD j false = _
        rw [h2]
        by_cases e : i = j
        · subst e; rw [getD_set_self hj]; simp
        · rw [getD_set_ne false e]; simp [Ne.symm e]
    have h1 := hmk (B'.map (·.2)) (Array.replicate ops.size false)
    refine Array.ext_getElem? fun j => ?_
    by_cases hj : j < ops.size
    · have h2 := h1.2 j (by simpa using hj)
      have hsz : j < (mark (Array.replicate ops.size false) (B'.map (·.2))).size := by rw [h1.1]; simpa using hj
      have h3 : (Array.replicate ops.size false).getD j false = false := by simp [hj]
      rw [h3, Bool.or_false] at h2
      have h4 : listed.getD j false = decide (j ∈ B'.map (·.2)) := by
        by_cases e : j ∈ B'.map (·.2)
        · rw [hB j e]; simp [e]
        · cases hv : listed.getD j false with
          | true => exact absurd (hin j hv) e
          | false => simp [e]
      have h5 : listed.getD j false = (mark (Array.replicate ops.size false) (B'.map (·.2))).getD j false := by rw [h4, h2]
      have hj' : j < listed.size := by omega
      simp only [Array.getD_eq_getD_getElem?, Array.getElem?_eq_getElem hj', Array.getElem?_eq_getElem hsz, Option.getD_some] at h5
      rw [Array.getElem?_eq_getElem hj', Array.getElem?_eq_getElem hsz, h5]
    · rw [Array.getElem?_eq_none (by omega), Array.getElem?_eq_none (by rw [h1.1]; simp; omega)]
  -- the values, with one for x
  obtain ⟨vx, hvx⟩ : ∃ vx : Value → Nat → Value, ∀ xv i, vx xv i = if i = x then xv else vals i := ⟨_, fun _ _ => rfl⟩
  have hfull : ∀ xv, runTo ops (vx xv) (fun _ => true) (B'.map (·.2)) a0 = afin.put ox.dst xv := by
    intro xv
    rw [hmapB, runTo_append, runTo_vals (vals' := vals) (B.map (·.2)) a0 (fun i hi _ => by rw [hvx, if_neg (fun (e : i = x) => hxB (by rw [← e]; exact hi))]), hrun]
    simp only [runTo, if_true, hvx]
    simp [dstAt, hox]
  have hxself : ∀ t, ox.dst = some t → t ∉ ox.looksAt ops := (selfB_spec hself (x := (false, x)) (by rw [hB']; simp) hox).1
  have main : ∀ (n : Nat) (listed : Array Bool) (w' : World) (xv : Value) (w1 : World), numOf B' listed = n → listed.size = ops.size → (∀ j, listed.getD j false = true → j ∈ B'.map (·.2)) →
      (∀ j, listed.getD j false = true → ∀ x ∈ B', x.1 = false → (m.getD j 0).testBit x.2 = true → listed.getD x.2 false = true) →
      (if listed.getD x false = true then ∃ wx, R w wx ∧ xv = px wx ∧ w1 = A wx else w1 = w) → R w1 w' →
      wpAny P .any ops Q (n + fuel) listed (runTo ops (vx xv) (fun i => listed.getD i false) (B'.map (·.2)) a0) w' := by
    intro n
    induction n with
    | zero =>
      intro listed w' xv w1 h0 hs hin hcl hst hC'
      have hallT : ∀ i ∈ B'.map (·.2), listed.getD i false = true := by
        intro i hi
        obtain ⟨x, hx, rfl⟩ := List.mem_map.1 hi
        have h1 := List.length_eq_zero_iff.1 h0
        have h2 := List.filter_eq_nil_iff.1 h1 x hx
        simpa using h2
      have hxt := hallT x (by rw [hmapB]; simp)
      have e := hlist listed hs hin h0
      rw [if_pos hxt] at hst
      obtain ⟨wx, h1, rfl, rfl⟩ := hst
      have hall : runTo ops (vx (px wx)) (fun i => listed.getD i false) (B'.map (·.2)) a0 = afin.put ox.dst (px wx) := by
        rw [← hfull]
        exact runTo_congr _ _ _ hallT
      rw [hall, Nat.zero_add, e]
      exact hK wx w' h1 hC'
    | succ n ih =>
      intro listed w' xv w1 hn hs hin hcl hst hC'
      have hRw1 : R w w1 := by
        by_cases hxl : listed.getD x false = true
        · rw [if_pos hxl] at hst
          obtain ⟨wx, h1, -, rfl⟩ := hst
          exact htrans _ _ _ h1 (hA wx)
        · rw [if_neg hxl] at hst
          rw [hst]; exact hrefl w
      obtain ⟨vals1, hrun1, hY⟩ := hvals w1 hRw1
      have hpre : ∃ pre x post, B' = pre ++ x :: post ∧ listed.getD x.2 false = false ∧ ∀ y ∈ pre, listed.getD y.2 false = true := by
        have : ∀ L : List (Bool × Nat), 0 < (L.filter fun x => !listed.getD x.2 false).length → ∃ pre x post, L = pre ++ x :: post ∧ listed.getD x.2 false = false ∧ ∀ y ∈ pre, listed.getD y.2 false = true := by
          intro L
          induction L with
          | nil => intro h; simp at h
          | cons z r ihL =>
            intro h
            cases hz : listed.getD z.2 false with
            | false => exact ⟨[], z, r, rfl, hz, by simp⟩
            | true =>
              simp only [List.filter_cons, hz, Bool.not_true, Bool.false_eq_true, if_false] at h
              obtain ⟨pre, x, post, e, h1, h2⟩ := ihL h
              refine ⟨z :: pre, x, post, by simp [e], h1, ?_⟩
              intro y hy
              rcases List.mem_cons.1 hy with rfl | hy
              · exact hz
              · exact h2 y hy
        exact this B' (by unfold numOf at hn; omega)
      obtain ⟨pre, f, post, hB, hfun, hpl⟩ := hpre
      have hfB : f ∈ B' := by rw [hB]; simp
      obtain ⟨of, hof⟩ := hex f hfB
      have hlt : ∀ {j oj}, ops[j]? = some oj → j < listed.size := fun {j oj} hj => by
        rcases Nat.lt_or_ge j ops.size with h' | h'
        · omega
        · simp [Array.getElem?_eq_none h'] at hj
      have hfr : f.2 ∈ Region.ready .any ops listed := by
        refine mem_ready.2 ⟨getD_true_of_false (hlt hof) hfun, of, hof, fun e he hb => ?_⟩
        rcases htp pre f post hB of hof e he hb with h3 | h3
        · cases h3
        · obtain ⟨y, hy, hye⟩ := List.mem_map.1 h3
          rw [← hye]; exact hpl y hy
      obtain ⟨fr, hfrm⟩ : ∃ fr, fr = runTo ops (vx xv) (fun i => listed.getD i false) (B'.map (·.2)) a0 := ⟨_, rfl⟩
      have hfsz : fr.tmps.size = a0.tmps.size := by rw [hfrm]; exact runTo_size _ _ _ _
      -- one that is ready and of B: its value
      have hval : ∀ j oj y, ops[j]? = some oj → y ∈ B → y.2 = j → listed.getD j false = false → (∀ e ∈ oj.after, Region.binds .any e = true → listed.getD e.on false = true) → Y2 P ops (R w1) y.1 oj (vals1 j) fr := by
        intro j oj y hj hy hyj hun hrd
        subst hyj
        have hyB' : y ∈ B' := by rw [hB']; exact List.mem_append_left _ hy
        have hyx : y.2 ≠ x := fun e => hxB (by rw [← e]; exact List.mem_map.2 ⟨y, hy, rfl⟩)
        have hapx := apartD_spec hap (x := (false, x)) (by rw [hB']; simp) hox hj hyx (List.mem_map.2 ⟨y, hyB', rfl⟩) (hnox y hy oj hj)
        have hst1 : Y2 P ops (R w1) y.1 oj (vals1 y.2) (afin.put ox.dst xv) :=
          (hY y hy oj hj).agr (fun cs b => hsel _ _ cs b hj) ((Agr.refl _ _).put_left xv fun t ht => hapx t ht)
        rw [← hfull, ] at hst1
        rw [hfrm]
        refine hst1.agr (fun cs b => hsel _ _ cs b hj) ?_
        refine runTo_agr _ _ _ _ _ (Agr.refl _ _) ?_
        intro k hk hne t hkt
        obtain ⟨z, hz, rfl⟩ := List.mem_map.1 hk
        obtain ⟨oz, hoz⟩ := hex z hz
        have hzun : listed.getD z.2 false = false := by simpa using hne
        by_cases hzy : z.2 = y.2
        · rw [hzy, dstAt, hj] at hkt
          exact (selfB_spec hself hyB' hj).1 t (by simpa using hkt)
        · have hno : hasEdge oj z.2 = false := by
            rw [← Bool.not_eq_true]
            intro he
            obtain ⟨e, hee, h2⟩ := List.any_eq_true.1 he
            simp only [Bool.and_eq_true, beq_iff_eq] at h2
            have := hrd e (Array.mem_toList_iff.1 hee) h2.1
            rw [h2.2, hzun] at this
            cases this
          exact apartD_spec hap hz hoz hj (Ne.symm hzy) (List.mem_map.2 ⟨y, hyB', rfl⟩) hno t (by simpa [dstAt, hoz] using hkt)
      have hsame : ∀ y ∈ B, ∀ oj, ops[y.2]? = some oj → fr.put oj.dst (vals1 y.2) = fr.put oj.dst (vals y.2) := by
        intro y hy oj hj
        refine put_same fun t ht hts => ?_
        have hym : y.2 ∈ B.map (·.2) := List.mem_map.2 ⟨y, hy, rfl⟩
        have hdt : dstAt ops y.2 = some t := by simpa [dstAt, hj] using ht
        have g1 := runTo_get vals1 (B.map (·.2)) a0 hDB y.2 hym hdt (by rw [hfsz] at hts; exact hts)
        have g2 := runTo_get vals (B.map (·.2)) a0 hDB y.2 hym hdt (by rw [hfsz] at hts; exact hts)
        rw [hrun1] at g1
        rw [hrun, g1] at g2
        exact Option.some.inj g2
      have hstep : ∀ j oj (listed' : Array Bool), listed' = listed.setIfInBounds j true → ops[j]? = some oj → j ∈ B'.map (·.2) → listed.getD j false = false → (∀ e ∈ oj.after, Region.binds .any e = true → listed.getD e.on false = true) →
          numOf B' listed' = n ∧ listed'.size = ops.size ∧ (∀ j, listed'.getD j false = true → j ∈ B'.map (·.2)) ∧ (∀ j, listed'.getD j false = true → ∀ x ∈ B', x.1 = false → (m.getD j 0).testBit x.2 = true → listed'.getD x.2 false = true) := by
        intro j oj listed' hl' hj hm hun hrd
        subst hl'
        refine ⟨?_, by simpa using hs, ?_, ?_⟩
        · have := numOf_set hnd (hlt hj) hun hm; omega
        · intro k hk
          by_cases e : j = k
          · exact e ▸ hm
          · rw [getD_set_ne false e] at hk; exact hin k hk
        · intro k hk z hz hzp hb
          by_cases e : z.2 = j
          · rw [e]; exact getD_set_self (hlt hj)
          · rw [getD_set_ne false (Ne.symm e)]
            by_cases ek : j = k
            · subst ek
              obtain ⟨ee, hee, hbd, h3⟩ := hw1 j oj hj z hz hzp hb
              have hl := hrd ee hee hbd
              rcases h3 with h3 | h3
              · rw [← h3]; exact hl
              · exact hcl ee.on hl z hz hzp h3
            · rw [getD_set_ne false ek] at hk
              exact hcl k hk z hz hzp hb
      have hnext : ∀ y ∈ B, ∀ oj, ops[y.2]? = some oj → listed.getD y.2 false = false → (∀ e ∈ oj.after, Region.binds .any e = true → listed.getD e.on false = true) → ∀ w'', R w1 w'' →
          wpAny P .any ops Q (n + fuel) (listed.setIfInBounds y.2 true) (fr.put oj.dst (vals1 y.2)) w'' := by
        intro y hy oj hj hun hrd w'' hC''
        have hym : y.2 ∈ B'.map (·.2) := by rw [hmapB]; exact List.mem_append_left _ (List.mem_map.2 ⟨y, hy, rfl⟩)
        have hyx : y.2 ≠ x := fun e => hxB (by rw [← e]; exact List.mem_map.2 ⟨y, hy, rfl⟩)
        rw [hsame y hy oj hj, hfrm]
        have e1 : (runTo ops (vx xv) (fun i => listed.getD i false) (B'.map (·.2)) a0).put oj.dst (vals y.2) = runTo ops (vx xv) (fun i => (listed.setIfInBounds y.2 true).getD i false) (B'.map (·.2)) a0 := by
          rw [runTo_add (vx xv) (D := fun i => listed.getD i false) (fun i hi => getD_set_ne false (Ne.symm hi)) hun (getD_set_self (hlt hj)) _ _ hnd hD hym]
          simp [dstAt, hj, hvx, hyx]
        rw [e1]
        obtain ⟨a1, a2, a3, a4⟩ := hstep y.2 oj _ rfl hj hym hun hrd
        refine ih _ w'' xv w1 a1 a2 a3 a4 ?_ hC''
        rw [getD_set_ne false hyx]
        exact hst
      rw [← hfrm]
      have hq : ∃ z ∈ B', z.1 = false ∧ listed.getD z.2 false = false := ⟨f, hfB, by simpa using List.all_eq_true.1 hflag f hfB, hfun⟩
      · obtain ⟨z, hz, hzp, hzun⟩ := hq
        rw [Nat.succ_add]
        refine ⟨fun h => (by rw [h] at hfr; cases hfr), fun j hj => ?_⟩
        obtain ⟨hjt, oj, hoj, hrd⟩ := mem_ready.1 hj
        obtain ⟨hjun, hjs⟩ := getD_false_of_true hjt
        have hjB : j ∈ B'.map (·.2) := by
          refine Classical.byContradiction fun hnot => ?_
          have hb := hw2 j oj hoj hnot z hz hzp
          obtain ⟨ee, hee, hbd, h3⟩ := hw1 j oj hoj z hz hzp hb
          have hl := hrd ee hee hbd
          rcases h3 with h3 | h3
          · rw [h3, hzun] at hl; cases hl
          · have := hcl ee.on hl z hz hzp h3
            rw [hzun] at this; cases this
        rw [hmapB] at hjB
        rcases List.mem_append.1 hjB with hjB | hjB
        · obtain ⟨y, hy, rfl⟩ := List.mem_map.1 hjB
          have hyv := hval y.2 oj y hoj hy rfl hjun hrd
          have hq : YieldsIn P ops (R w1) oj (vals1 y.2) fr ∨ Yields P ops oj (vals1 y.2) fr := by
            unfold Y2 at hyv
            split at hyv
            · exact .inr hyv.2
            · exact .inl hyv
          rcases hq with hq | hq
          · exact wpOp_of_qOp (K := fun a' => a' = fr.put oj.dst (vals1 y.2)) hC' (fun a' w'' hC'' ha => by subst ha; exact hnext y hy oj hoj hjun hrd w'' hC'') (hq.qOp hoj rfl)
          · exact hq.wpOp hoj (hnext y hy oj hoj hjun hrd w' hC')
        · obtain rfl : j = x := by simpa using hjB
          rw [hox] at hoj
          cases hoj
          refine hx _ _ _ ?_
          have hjm : j ∈ B'.map (·.2) := by rw [hmapB]; simp
          obtain ⟨a1, a2, a3, a4⟩ := hstep j ox _ rfl hox hjm hjun hrd
          have e1 : fr.put ox.dst (px w') = runTo ops (vx (px w')) (fun i => (listed.setIfInBounds j true).getD i false) (B'.map (·.2)) a0 := by
            rw [runTo_add (vx (px w')) (D := fun i => listed.getD i false) (fun i hi => getD_set_ne false (Ne.symm hi)) hjun (getD_set_self (hlt hox)) _ _ hnd hD hjm, hfrm,
              runTo_vals (vals := vx xv) (vals' := vx (px w')) (B'.map (·.2)) a0 fun i hi hd => by
                have : i ≠ j := fun e => by rw [e, hjun] at hd; cases hd
                rw [hvx, hvx, if_neg this, if_neg this]]
            simp [dstAt, hox, hvx]
          rw [e1]
          rw [if_neg (by rw [hjun]; simp)] at hst
          refine ih _ (A w') (px w') (A w') a1 a2 a3 a4 ?_ (hrefl _)
          rw [getD_set_self (hlt hox), if_pos rfl]
          exact ⟨w', by rw [← hst]; exact hC', rfl, rfl⟩
  have hf : ∀ j, (Array.replicate ops.size false).getD j false = false := by intro j; by_cases hj : j < ops.size <;> simp [hj]
  have h0 : numOf B' (Array.replicate ops.size false) = B'.length := by
    unfold numOf
    rw [List.filter_eq_self.2]
    intro x _
    rw [hf]; rfl
  have := main B'.length (Array.replicate ops.size false) w undef w h0 (by simp) (fun j hj => by rw [hf] at hj; cases hj) (fun j hj => by rw [hf] at hj; cases hj) (by rw [hf, if_neg (by simp)]) (hrefl w)
  have e : runTo ops (vx undef) (fun i => (Array.replicate ops.size false).getD i false) (B'.map (·.2)) a0 = a0 := by
    have : ∀ l : List Nat, runTo ops (vx undef) (fun i => (Array.replicate ops.size false).getD i false) l a0 = a0 := by
      intro l
      induction l with
      | nil => rfl
      | cons k l ihl => rw [runTo, hf]; exact ihl
    exact this _
  rw [e] at this
  exact this

def okAlloc (ops : Array Oper) (segs : List (Bool × List Nat)) (x : Nat) (m : Array Nat) : Bool :=
  okD ops (flat segs ++ [(false, x)]) m && (opsOf ops segs).all fun s => !s.1 || s.2.all pureKind
/-- A region that draws its order: calls and loads, by segments, beside one allocation, and what waits for all of these. -/
theorem wp_region_alloc {l : List Oper} {id : Nat} {a afin : Act} {w : World} (hm : P.follows .mixedOrders = true) {R : World → World → Prop} (hrefl : ∀ w, R w w) (htrans : ∀ a b c, R a b → R b c → R a c)
    (segs : List (Bool × List Nat)) (x : Nat) (T : TypeId) (z : Array Value) {ox : Oper} {t : Tmp} (hox : l.toArray[x]? = some ox) (hdst : ox.dst = some t) (hop : ox.op = .alloc T) (hgd : ox.guard = none)
    (hrun : ∀ w, (Instr.alloc T true (.tuple #[])).run P w = .ok (.pointer (some ⟨w.heap.size, 0, none⟩)) (w.alloc (.cells z T))) (hA : ∀ w, R w (w.alloc (.cells z T)))
    (m : Array Nat) (fuel : Nat) (final : Array Bool) (hok : okAlloc l.toArray segs x m = true)
    (hfin : mark (Array.replicate l.toArray.size false) ((flat segs ++ [(false, x)]).map (·.2)) = final) (hlen : (flat segs ++ [(false, x)]).length + fuel = l.toArray.size)
    (hQ : ∀ d c a v w, Q (.panic c) (Act.put a d v) w → Q (.panic c) a w)
    (h : ∀ w1, R w.drew w1 → wpSegs P l.toArray (fun w' => ∃ y : InS (R w1), w' = y.w) (fun a' => a' = afin) (opsOf l.toArray segs) a)
    (hK : ∀ wx w', R w.drew wx → R (wx.alloc (.cells z T)) w' → wpG P l.toArray Q (fun _ => True) (fun _ => false) fuel final (afin.put (some t) (.pointer (some ⟨wx.heap.size, 0, none⟩))) w') : (Code.region id l.toArray true).wp P Q a w := by
  unfold okAlloc at hok
  simp only [Bool.and_eq_true] at hok
  refine wp_region_any hm ?_
  have key := fun h1 h2 => wpAny_quiet_alloc hrefl htrans hok.1 hox (a0 := a) (w := w.drew) hQ hfin (A := fun w => w.alloc (.cells z T)) (px := fun w => .pointer (some ⟨w.heap.size, 0, none⟩)) hA h1 h2 fun wx w' h1 h2 => wpAny_of_G _ _ _ _ (by rw [hdst]; exact hK wx w' h1 h2)
  rw [hlen] at key
  refine key ?_ ?_
  · intro K a w hk
    unfold wpOp
    simp only [hox]
    rw [if_pos (by simp [Region.wanted, hgd])]
    refine .inl ?_
    unfold Oper.wp
    simp [execOp, hop, hrun, Result.andThen, Oper.upon]
    exact hk
  · intro w1 h1
    have h2 := h w1 h1
    rw [inS_eq] at h2
    rw [flat_ops]
    refine q2_of_segs _ _ (fun s hs hp => ?_) h2
    have := List.all_eq_true.1 hok.2 s hs
    rw [hp] at this
    exact List.all_eq_true.1 (by simpa using this)
end
end Go.Lcl
