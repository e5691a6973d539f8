/- Sync, drop of a log: the walks. -/
import Derived.Test.YtdlnafhhkpklmaaGreatDoorY36
namespace Go.Proofs.YtdlnafhhkpklmaaGreatDoor
open Go.RowKit Go.Fm Go.BigFrame Go.Shelf Go.Maps
set_option linter.unusedVariables false
set_option linter.unusedSimpArgs false
set_option maxRecDepth 100000
theorem nmS_size (p : ByteArray) (b : Nat) : (nmS p b).size = p.size + 14 := by
 unfold nmS
 rw [ByteArray.size_append, dash_size]
 show p.size + 1 + (dgB b).length = _
 rw [dgB_len]
section
variable {B : Nat} {w w' : World} {lb db mb : Nat} {p : ByteArray} {lim ev : Nat} {beg : Int} {es : List PE} {own : Bool} {L : List Row} {S : Nat → Prop} {room used fuse : Int} {F : ByteArray → ByteArray × Nat}
theorem Lg.p2 (h : Lg B w lb db mb p lim ev beg es own L S) : p.size ≤ 20 := by obtain ⟨_, _, h1, -⟩ := h; exact h1.p2
theorem Lg.p1 (h : Lg B w lb db mb p lim ev beg es own L S) : 1 ≤ p.size := by obtain ⟨_, _, h1, -⟩ := h; exact h1.p1
def LSynPost (w : World) (db mb : Nat) (p : ByteArray) (es : List PE) (room used fuse : Int) (L : List Row) (F : ByteArray → ByteArray × Nat) (e : Ending) (w' : World) : Prop :=
 match es.getLast? with
 | none => e = .returned (.int .i64 0) ∧ Fr (fun _ => False) w w'
 | some x => SSynPost w db mb room used fuse L F (nmS p x.s.base) e w'
theorem lsync_walk (h : Lg B w lb db mb p lim ev beg es own L S) (hd : Dk w db mb room used fuse L F) (ho : DkOK room used fuse L F) : Calls Tryz.prog 25 #[.pointer (some ⟨lb, 0, none⟩)] w (LSynPost w db mb p es room used fuse L F) := by
 have HL := Lib.hid (last_walk h)
 have H := Lib.hid h
 have HD := Lib.hid hd
 have HO := Lib.hid ho
 clear h hd ho
 unfold lastV at HL
 unfold LSynPost
 cases hl : es.getLast? with
 | none =>
  rw [hl] at HL
  dsimp only at HL ⊢
  go_enter Tryz.func25, Tryz.ntmps25
  go_wp2_with fail
  refine HL.out.mono ?_
  rintro e w1 ⟨rfl, hf⟩
  have F1 := Lib.hid hf
  clear hf
  go_wp2_with fail
  go_ret
  exact ⟨rfl, F1.out⟩
 | some x =>
  rw [hl] at HL
  dsimp only at HL ⊢
  unfold segV at HL
  have hx := List.mem_of_getLast? hl
  go_enter Tryz.func25, Tryz.ntmps25
  go_wp2_with fail
  refine HL.out.mono ?_
  rintro e w1 ⟨rfl, hf⟩
  have F1 := Lib.hid hf
  have HE := Lib.hid (ssync_walk ((H.out.old hf).seg hx) (HD.out.old hf) HO.out (by rw [nmS_size]; have := H.out.p2; omega))
  clear hf
  go_wp2_with fail
  refine HE.out.mono ?_
  rintro e w2 ⟨rfl, h1, h2, h3⟩
  have H1 := Lib.hid h1
  have H2 := Lib.hid h2
  have F2 := Lib.hid ((F1.out.mono (S' := DkS db mb L) fun i h => h.elim).trans h3 fun i h => .inl h)
  clear h1 h2 h3
  go_wp2_with fail
  go_ret
  exact ⟨rfl, H1.out, H2.out, F2.out⟩
def LDropPost (w : World) (db mb : Nat) (room used fuse : Int) (L : List Row) (F : ByteArray → ByteArray × Nat) (nm : ByteArray) (e : Ending) (w' : World) : Prop :=
 e = .returned (.int .i64 (ssynCode (synCode fuse L nm))) ∧ (synCode fuse L nm = 0 → Dk w' db mb room (used - (F nm).1.size) (burn fuse) (delL L nm) F ∧ Fr (DkS db mb L) w w') ∧ (synCode fuse L nm ≠ 0 → Fr (fun _ => False) w w')
theorem ldrop_walk (hc : w.cell? ⟨lb, 3, none⟩ = some (.pointer (some ⟨db, 0, none⟩))) (hd : Dk w db mb room used fuse L F) (ho : DkOK room used fuse L F) (nm : ByteArray) (h2 : nm.size ≤ 40) :
  Calls Tryz.prog 42 #[.pointer (some ⟨lb, 0, none⟩), .string nm] w (LDropPost w db mb room used fuse L F nm) := by
 have HD := Lib.hid (ddrop_any hd ho nm h2)
 clear hd ho
 unfold LDropPost
 obtain ⟨c, hcc⟩ : ∃ c, c = synCode fuse L nm := ⟨_, rfl⟩
 rw [← hcc]
 have HCC := Lib.hid hcc
 clear hcc
 go_enter Tryz.func42, Tryz.ntmps42
 go_wp2_with fail
 refine HD.out.mono ?_
 rintro e w1 ⟨he, h1, h2⟩
 rw [← HCC.out] at he h1 h2
 subst he
 have H1 := Lib.hid h1
 have H2 := Lib.hid h2
 clear h1 h2 hc HD HCC
 by_cases h6 : c = 6
 ·subst h6
  go_wp2_with fail
  go_ret
  exact ⟨rfl, fun h => H1.out h, fun h => H2.out h⟩
 ·have hq : (c != 6) = true := by simpa using h6
  have hs : ssynCode c = c := by unfold ssynCode; rw [if_neg h6]
  go_wp2_with fail
  go_ret
  exact ⟨by rw [hs]; rfl, fun h => H1.out h, fun h => H2.out h⟩
end
end Go.Proofs.YtdlnafhhkpklmaaGreatDoor
/- A log's files: plain laws on their names. -/
namespace Go.Proofs.YtdlnafhhkpklmaaGreatDoor
open Go.RowKit Go.Fm Go.BigFrame Go.Shelf Go.Maps
set_option linter.unusedVariables false
set_option linter.unusedSimpArgs false
set_option maxRecDepth 100000
theorem dg_mod {b b' : Nat} : ∀ {k : Nat}, dg k b = dg k b' → b % 10 ^ k = b' % 10 ^ k
 | 0, _ => by rw [Nat.pow_zero, Nat.mod_one, Nat.mod_one]
 | k + 1, h => by
  rw [dg, dg] at h
  injection h with h1 h2
  have ih := dg_mod h2
  have e : ∀ n : Nat, n % 10 ^ (k + 1) = n / 10 ^ k % 10 * 10 ^ k + n % 10 ^ k := fun n => by
   rw [Nat.pow_succ, Nat.mod_mul, Nat.add_comm, Nat.mul_comm]
  rw [e b, e b', h1, ih]
theorem dg_lt10 (b : Nat) : ∀ k, ∀ x ∈ dg k b, x < 10
 | 0, x, hx => by cases hx
 | k + 1, x, hx => by
  rcases List.mem_cons.1 hx with rfl | hx
  ·exact Nat.mod_lt _ (by decide)
  ·exact dg_lt10 b k x hx
theorem dig_inj {a b : Nat} (ha : a < 10) (hb : b < 10) (h : UInt8.ofNat (48 + a) = UInt8.ofNat (48 + b)) : a = b := by
 have h1 : (UInt8.ofNat (48 + a)).toNat = 48 + a := UInt8.toNat_ofNat_of_lt' (show 48 + a < 256 by omega)
 have h2 : (UInt8.ofNat (48 + b)).toNat = 48 + b := UInt8.toNat_ofNat_of_lt' (show 48 + b < 256 by omega)
 rw [h, h2] at h1
 omega
theorem map_dig_inj : ∀ {l l' : List Nat}, (∀ x ∈ l, x < 10) → (∀ x ∈ l', x < 10) → (l.map fun d => UInt8.ofNat (48 + d)) = (l'.map fun d => UInt8.ofNat (48 + d)) → l = l'
 | [], [], _, _, _ => rfl
 | [], _ :: _, _, _, h => by cases h
 | _ :: _, [], _, _, h => by cases h
 | a :: l, b :: l', h1, h2, h => by
  rw [List.map_cons, List.map_cons] at h
  injection h with h3 h4
  rw [dig_inj (h1 a List.mem_cons_self) (h2 b List.mem_cons_self) h3, map_dig_inj (fun x hx => h1 x (List.mem_cons_of_mem _ hx)) (fun x hx => h2 x (List.mem_cons_of_mem _ hx)) h4]
theorem dgB_inj {b b' : Nat} (hb : b ≤ 1099511627776) (hb' : b' ≤ 1099511627776) (h : dgB b = dgB b') : b = b' := by
 have h1 := dg_mod (map_dig_inj (dg_lt10 b 13) (dg_lt10 b' 13) h)
 rw [Nat.mod_eq_of_lt (by omega), Nat.mod_eq_of_lt (by omega)] at h1
 exact h1
theorem nmS_list (p : ByteArray) (b : Nat) : (nmS p b).data.toList = (dashS p).data.toList ++ dgB b := by unfold nmS; rw [append_list]
theorem nmS_inj {p : ByteArray} {b b' : Nat} (hb : b ≤ 1099511627776) (hb' : b' ≤ 1099511627776) (h : nmS p b = nmS p b') : b = b' := by
 have h1 := congrArg (fun s : ByteArray => s.data.toList) h
 rw [nmS_list, nmS_list] at h1
 exact dgB_inj hb hb' (List.append_cancel_left h1)
theorem nmS_pre (p : ByteArray) (b : Nat) : Lib.hasPrefix (nmS p b).data.toList (dashS p).data.toList = true := by rw [nmS_list]; exact prefix_app _ _
theorem dash_list (p : ByteArray) : (dashS p).data.toList = p.data.toList ++ [45] := by unfold dashS; rw [append_list]
theorem dot_pre (p : ByteArray) (l : List UInt8) : Lib.hasPrefix (p.data.toList ++ 46 :: l) (dashS p).data.toList = false := by
 rw [dash_list]
 cases h : Lib.hasPrefix (p.data.toList ++ 46 :: l) (p.data.toList ++ [45]) with
 | false => rfl
 | true =>
  unfold Lib.hasPrefix at h
  rw [List.isPrefixOf_iff_prefix] at h
  rw [List.prefix_append_right_inj] at h
  obtain ⟨t, ht⟩ := h
  rw [List.cons_append] at ht
  injection ht with ht _
  exact absurd ht (by decide)
theorem start_pre (p : ByteArray) : Lib.hasPrefix (startS p).data.toList (dashS p).data.toList = false := by
 unfold startS; rw [append_list]; exact dot_pre p _
theorem fresh_pre (p : ByteArray) : Lib.hasPrefix (freshS p).data.toList (dashS p).data.toList = false := by
 unfold freshS; rw [append_list]; exact dot_pre p _
theorem swap_pre (p : ByteArray) : Lib.hasPrefix (swapS p).data.toList (dashS p).data.toList = false := by
 unfold swapS; rw [append_list]; exact dot_pre p _
/-- Is a file a log's? -/
def mine (p nm : ByteArray) : Prop := Lib.hasPrefix nm.data.toList (dashS p).data.toList = true ∨ nm = startS p ∨ nm = freshS p ∨ nm = swapS p
/-- The order of names is that of numbers. -/
theorem dg_lt {b b' : Nat} : ∀ {k : Nat}, b % 10 ^ k < b' % 10 ^ k → ((dg k b).map fun d => UInt8.ofNat (48 + d)) < ((dg k b').map fun d => UInt8.ofNat (48 + d))
 | 0, h => by rw [Nat.pow_zero, Nat.mod_one, Nat.mod_one] at h; omega
 | k + 1, h => by
  have e : ∀ n : Nat, n % 10 ^ (k + 1) = n / 10 ^ k % 10 * 10 ^ k + n % 10 ^ k := fun n => by
   rw [Nat.pow_succ, Nat.mod_mul, Nat.add_comm, Nat.mul_comm]
  have hp : 0 < 10 ^ k := Nat.pow_pos (by decide)
  have l1 := Nat.mod_lt b hp
  have l2 := Nat.mod_lt b' hp
  rw [e b, e b'] at h
  rw [dg, dg, List.map_cons, List.map_cons]
  have x1 : b / 10 ^ k % 10 < 10 := Nat.mod_lt _ (by decide)
  have x2 : b' / 10 ^ k % 10 < 10 := Nat.mod_lt _ (by decide)
  generalize b / 10 ^ k % 10 = x at *
  generalize b' / 10 ^ k % 10 = y at *
  rcases Nat.lt_trichotomy x y with hxy | rfl | hxy
  ·refine List.Lex.rel ?_
   show UInt8.ofNat (48 + x) < UInt8.ofNat (48 + y)
   rw [UInt8.lt_iff_toNat_lt, show (UInt8.ofNat (48 + x)).toNat = 48 + x from UInt8.toNat_ofNat_of_lt' (show 48 + x < 256 by omega), show (UInt8.ofNat (48 + y)).toNat = 48 + y from UInt8.toNat_ofNat_of_lt' (show 48 + y < 256 by omega)]
   omega
  ·exact List.Lex.cons (dg_lt (by omega))
  ·have : (y + 1) * 10 ^ k ≤ x * 10 ^ k := Nat.mul_le_mul_right _ hxy
   rw [Nat.add_mul] at this
   omega
theorem nmS_le {p : ByteArray} {b b' : Nat} (h : b ≤ b') (hb' : b' ≤ 1099511627776) : (nmS p b).data.toList ≤ (nmS p b').data.toList := by
 rcases Nat.eq_or_lt_of_le h with rfl | h
 ·exact List.le_refl _
 ·rw [nmS_list, nmS_list]
  have h1 : dgB b < dgB b' := dg_lt (k := 13) (by rw [Nat.mod_eq_of_lt (by omega), Nat.mod_eq_of_lt (by omega)]; exact h)
  have h2 : ∀ l : List UInt8, l ++ dgB b < l ++ dgB b' := fun l => by
   induction l with
   | nil => exact h1
   | cons a l ih => exact List.Lex.cons ih
  exact List.le_of_lt (h2 _)
end Go.Proofs.YtdlnafhhkpklmaaGreatDoor
/- Opening a segment on a disk that is down; a segment is set behind the others: walks and laws. -/
namespace Go.Proofs.YtdlnafhhkpklmaaGreatDoor
open Go.RowKit Go.Fm Go.BigFrame Go.Shelf Go.Maps
set_option linter.unusedVariables false
set_option linter.unusedSimpArgs false
set_option maxRecDepth 100000
section
variable {B : Nat} {w w' : World} {lb db mb : Nat} {p : ByteArray} {lim ev : Nat} {beg : Int} {es : List PE} {own : Bool} {L : List Row} {S : Nat → Prop} {room used fuse : Int} {F : ByteArray → ByteArray × Nat}
theorem sopen_down (hd : Dk w db mb room used 0 L F) (nm : ByteArray) (h1 : 1 ≤ nm.size) (h2 : nm.size ≤ 40) (base every : Nat) (hb : base ≤ 1099511627776) (he1 : 1 ≤ every) (he2 : every ≤ 1000000) :
  Calls Tryz.prog 51 #[.pointer (some ⟨db, 0, none⟩), .string nm, .int .i64 base, .int .i64 every] w fun e w' => e = .returned (.tuple #[.pointer none, .int .i64 7]) ∧ Fr (fun _ => False) w w' := by
 have HI := Lib.hid (inew_yes every w (by omega) (by omega) w.heap.size (Nat.le_refl _))
 have g4 : ¬ nm.toList = [] := fun h => by
  have := empty_list.2 h
  rw [this] at h1
  cases h1
 have g5 : nm.toList.isEmpty = false := by simpa using g4
 have h3 : (nm.size : Int) ≤ 40 := by omega
 have HD := Lib.hid hd
 clear hd
 go_enter Tryz.func51, Tryz.ntmps51
 go_wp2_with fail
 refine HI.out.mono ?_
 rintro e w1 ⟨rfl, hf1, hsz1, hix1⟩
 have F1 := Lib.hid hf1
 clear hf1 hsz1 hix1 HI
 go_wp2_with fail
 refine (dread_down (HD.out.old F1.out) nm).mono ?_
 rintro e w2 ⟨rfl, rfl⟩
 go_wp2_with fail
 go_ret2
 exact ⟨rfl, F1.out⟩
theorem segs_of_own {w : World} {v : Value} {es : List PE} (h : w.ownsRow B 96 1 v es.length (es.map segV)) : SegsR w v es (fun i => v.ownBlock = some i) := by
 have hc : ∃ oa cap, v = .slice oa es.length cap ∧ es.length ≤ cap ∧ cap ≤ maxLen := by
  rcases h.2 with ⟨rfl, h0⟩ | ⟨g, cap, cur, rfl, hb, hg, h1, h2, -⟩
  ·exact ⟨none, 0, by rw [h0], by omega, by unfold maxLen; omega⟩
  ·exact ⟨_, cap, rfl, h1, h2⟩
 obtain ⟨oa, cap, rfl, h1, h2⟩ := hc
 obtain ⟨oa', cap', he, hoa⟩ := own_at h
 injection he with e1 e2 e3
 subst e1 e3
 refine ⟨oa, cap, rfl, h1, h2, fun k e hk => ?_⟩
 have hlt := (List.getElem?_eq_some_iff.1 hk).1
 obtain ⟨g, rfl, hob, hBg, hcells⟩ := hoa (by omega)
 have h7 := hcells k (segV e) (by rw [List.getElem?_map, hk]; rfl)
 exact ⟨⟨g, 0, none⟩, rfl, by rw [show (⟨g, 0, none⟩ : Addr).add k = ⟨g, k, none⟩ by unfold Addr.add; split <;> simp_all]; exact h7, rfl⟩
theorem LgV.push {sv v' : Value} {G : Nat → Prop} {w3 : World} (h : LgV B w lb db mb p lim ev beg es true L sv G) {x : PE} (hf : Fr (fun i => i = lb ∨ sv.ownBlock = some i) w w3) (hb : w3.heap[lb]? = some (lgObj p lim ev db beg v'))
  (ho : w3.ownsRow B 96 1 v' (es ++ [x]).length ((es ++ [x]).map segV)) (hv : v'.ownBlock = sv.ownBlock ∨ ∃ g, v'.ownBlock = some g ∧ w.heap.size ≤ g ∧ g < w3.heap.size) (hx : Sg B w x.sb db (nmS p x.s.base) x.s x.S)
  (hxS : ∀ i, x.S i → B ≤ i ∧ i < w.heap.size ∧ ¬ lgFoot lb G es i ∧ ¬ DkS db mb L i) (hD : ∀ i, DkS db mb L i → i < w.heap.size) (hn : es.length < 800) (hxb : x.s.base ≤ 1099511627776) :
  LgV B w3 lb db mb p lim ev beg (es ++ [x]) true L v' (fun i => v'.ownBlock = some i) := by
 have hG : ∀ i, v'.ownBlock = some i → G i ∨ w.heap.size ≤ i := fun i hi => by
  rcases hv with h1 | ⟨g, h1, h2, -⟩
  ·rw [h1] at hi; exact .inl ((h.ow rfl).2 i hi)
  ·rw [h1] at hi; injection hi with hi; subst hi; exact .inr h2
 have hB : B ≤ w.heap.size := by have := h.lt lb (.inl rfl); omega
 have hlb := (h.lt lb (.inl rfl)).2
 have hSlt : ∀ e ∈ es, ∀ i, e.S i → i < w.heap.size := fun e he i hi => (h.lt i (.inr (.inr ⟨e, he, hi⟩))).2
 refine ⟨hb, segs_of_own ho, fun _ => ⟨ho, fun g hg => hg⟩, fun e he => ?_, fun i hi => ?_, fun i hi hd => ?_, fun i hi e => ?_, fun i hi e he hs => ?_, ?_, h.p1, h.p2, h.l1, h.l2, h.e1, h.e2, h.b0, h.b1, by rw [List.length_append]; simp; omega, fun e he => ?_⟩
 ·rcases List.mem_append.1 he with he | he
  ·exact (h.sg e he).fr hf fun i hi h1 => by
    rcases h1 with h1 | h1
    ·exact h.nb i (.inr ⟨e, he, hi⟩) h1
    ·exact h.ng i ((h.ow rfl).2 i h1) e he hi
  ·obtain rfl : e = x := by simpa using he
   exact hx.fr hf fun i hi h1 => by
    rcases h1 with h1 | h1
    ·exact (hxS i hi).2.2.1 (.inl h1)
    ·exact (hxS i hi).2.2.1 (.inr (.inl ((h.ow rfl).2 i h1)))
 ·rcases hi with rfl | hi | ⟨e, he, hi⟩
  ·exact ⟨(h.lt _ (.inl rfl)).1, lt_of_heap hb⟩
  ·exact own_lt ho hi
  ·rcases List.mem_append.1 he with he | he
   ·have := h.lt i (.inr (.inr ⟨e, he, hi⟩))
    exact ⟨this.1, Nat.lt_of_lt_of_le this.2 hf.size⟩
   ·obtain rfl : e = x := by simpa using he
    have := hxS i hi
    exact ⟨this.1, Nat.lt_of_lt_of_le this.2.1 hf.size⟩
 ·rcases hi with rfl | hi | ⟨e, he, hi⟩
  ·exact h.ap _ (.inl rfl) hd
  ·rcases hG i hi with h1 | h1
   ·exact h.ap _ (.inr (.inl h1)) hd
   ·have := hD i hd; omega
  ·rcases List.mem_append.1 he with he | he
   ·exact h.ap i (.inr (.inr ⟨e, he, hi⟩)) hd
   ·obtain rfl : e = x := by simpa using he
    exact (hxS i hi).2.2.2 hd
 ·subst e
  rcases hi with hi | ⟨e, he, hi⟩
  ·rcases hG i hi with h1 | h1
   ·exact h.nb i (.inl h1) rfl
   ·omega
  ·rcases List.mem_append.1 he with he | he
   ·exact h.nb i (.inr ⟨e, he, hi⟩) rfl
   ·obtain rfl : e = x := by simpa using he
    exact (hxS i hi).2.2.1 (.inl rfl)
 ·rcases List.mem_append.1 he with he | he
  ·rcases hG i hi with h1 | h1
   ·exact h.ng i h1 e he hs
   ·have := hSlt e he i hs; omega
  ·obtain rfl : e = x := by simpa using he
   rcases hG i hi with h1 | h1
   ·exact (hxS i hs).2.2.1 (.inr (.inl h1))
   ·have := (hxS i hs).2.1; omega
 ·rw [List.pairwise_append]
  refine ⟨h.nn, by simp, fun a ha b hb i hi hbi => ?_⟩
  obtain rfl : b = x := by simpa using hb
  exact (hxS i hbi).2.2.1 (.inr (.inr ⟨a, ha, hi⟩))
 ·rcases List.mem_append.1 he with he | he
  ·exact h.evs e he
  ·obtain rfl : e = x := by simpa using he
   exact hxb
/-- The last segment has more. -/
theorem LgV.last {sv : Value} {G : Nat → Prop} {es0 : List PE} {x : PE} {s' : Seg} {S' : Nat → Prop} {L' : List Row} (h : LgV B w lb db mb p lim ev beg (es0 ++ [x]) own L sv G) (hf : Fr (fun i => x.S i ∨ DkS db mb L i) w w')
  (hx : Sg B w' x.sb db (nmS p x.s.base) s' S') (hS : ∀ i, S' i → x.S i ∨ (w.heap.size ≤ i ∧ i < w'.heap.size)) (hap : ∀ i, S' i → ¬ DkS db mb L' i) (hD : ∀ i, DkS db mb L' i → DkS db mb L i ∨ w.heap.size ≤ i) (hbs : s'.base = x.s.base) :
  LgV B w' lb db mb p lim ev beg (es0 ++ [⟨x.sb, s', S'⟩]) own L' sv G := by
 have hxm : x ∈ es0 ++ [x] := List.mem_append.2 (.inr (by simp))
 have hB : B ≤ w.heap.size := by have := h.lt lb (.inl rfl); omega
 have hm : ∀ e ∈ es0, e ∈ es0 ++ [x] := fun e he => List.mem_append.2 (.inl he)
 have hpw := List.pairwise_append.1 h.nn
 have hkeep : ∀ i, lgFoot lb G es0 i → ¬ (x.S i ∨ DkS db mb L i) := fun i hi hr => by
  rcases hr with hr | hr
  ·rcases hi with rfl | hi | ⟨e, he, hi⟩
   ·exact h.nb _ (.inr ⟨x, hxm, hr⟩) rfl
   ·exact h.ng i hi x hxm hr
   ·exact hpw.2.2 e he x (by simp) i hi hr
  ·rcases hi with rfl | hi | ⟨e, he, hi⟩
   ·exact h.ap _ (.inl rfl) hr
   ·exact h.ap i (.inr (.inl hi)) hr
   ·exact h.ap i (.inr (.inr ⟨e, hm e he, hi⟩)) hr
 have hlen : (es0 ++ [(⟨x.sb, s', S'⟩ : PE)]).length = (es0 ++ [x]).length := by simp
 have hmap : (es0 ++ [(⟨x.sb, s', S'⟩ : PE)]).map segV = (es0 ++ [x]).map segV := by simp [segV]
 have hold : ∀ i, lgFoot lb G es0 i → i < w.heap.size := fun i hi => by
  rcases hi with rfl | hi | ⟨e, he, hi⟩
  ·exact (h.lt _ (.inl rfl)).2
  ·exact (h.lt i (.inr (.inl hi))).2
  ·exact (h.lt i (.inr (.inr ⟨e, hm e he, hi⟩))).2
 have hfoot : ∀ i, lgFoot lb G (es0 ++ [⟨x.sb, s', S'⟩]) i → lgFoot lb G es0 i ∨ S' i := fun i hi => by
  rcases hi with hi | hi | ⟨e, he, hi⟩
  ·exact .inl (.inl hi)
  ·exact .inl (.inr (.inl hi))
  ·rcases List.mem_append.1 he with he | he
   ·exact .inl (.inr (.inr ⟨e, he, hi⟩))
   ·obtain rfl : e = _ := by simpa using he
    exact .inr hi
 refine ⟨(hf.block _ (lt_of_heap h.b) (hkeep _ (.inl rfl))).trans h.b, ?_, fun ho => ?_, fun e he => ?_, fun i hi => ?_, fun i hi hd => ?_, fun i hi e => ?_, fun i hi e he hs => ?_, ?_, h.p1, h.p2, h.l1, h.l2, h.e1, h.e2, h.b0, h.b1, by rw [hlen]; exact h.n, fun e he => ?_⟩
 ·have h1 := h.rd.fr hf fun i hi => hkeep i (.inr (.inl hi))
  obtain ⟨oa, cap, e1, e2, e3, e4⟩ := h1
  refine ⟨oa, cap, by rw [hlen]; exact e1, by rw [hlen]; exact e2, e3, fun k e he => ?_⟩
  have he2 : ((es0 ++ [x]).map segV)[k]? = some (segV e) := by rw [← hmap, List.getElem?_map, he]; rfl
  rw [List.getElem?_map, Option.map_eq_some_iff] at he2
  obtain ⟨y, hy, e5⟩ := he2
  rw [← e5]
  exact e4 k y hy
 ·rw [hlen, hmap]
  exact ⟨own_eq (h.ow ho).1 fun k hk => hf.block k (own_lt (h.ow ho).1 hk).2 (hkeep k (.inr (.inl ((h.ow ho).2 k hk)))), (h.ow ho).2⟩
 ·rcases List.mem_append.1 he with he | he
  ·exact (h.sg e (hm e he)).fr hf fun i hi => hkeep i (.inr (.inr ⟨e, he, hi⟩))
  ·obtain rfl : e = _ := by simpa using he
   show Sg B w' x.sb db (nmS p s'.base) s' S'
   rw [hbs]
   exact hx
 ·rcases hfoot i hi with h1 | h1
  ·have h2 := hold i h1
   refine ⟨?_, Nat.lt_of_lt_of_le h2 hf.size⟩
   rcases h1 with rfl | h1 | ⟨e, he, h1⟩
   ·exact (h.lt _ (.inl rfl)).1
   ·exact (h.lt i (.inr (.inl h1))).1
   ·exact (h.lt i (.inr (.inr ⟨e, hm e he, h1⟩))).1
  ·rcases hS i h1 with h2 | h2
   ·have := h.lt i (.inr (.inr ⟨x, hxm, h2⟩))
    exact ⟨this.1, Nat.lt_of_lt_of_le this.2 hf.size⟩
   ·exact ⟨by omega, h2.2⟩
 ·rcases hfoot i hi with h1 | h1
  ·rcases hD i hd with h2 | h2
   ·exact hkeep i h1 (.inr h2)
   ·have := hold i h1; omega
  ·exact hap i h1 hd
 ·subst e
  have hlb := (h.lt i (.inl rfl)).2
  rcases hi with hi | ⟨e, he, hi⟩
  ·exact h.nb i (.inl hi) rfl
  ·rcases List.mem_append.1 he with he | he
   ·exact h.nb i (.inr ⟨e, hm e he, hi⟩) rfl
   ·obtain rfl : e = _ := by simpa using he
    rcases hS i hi with h2 | h2
    ·exact h.nb i (.inr ⟨x, hxm, h2⟩) rfl
    ·omega
 ·rcases List.mem_append.1 he with he | he
  ·exact h.ng i hi e (hm e he) hs
  ·obtain rfl : e = _ := by simpa using he
   rcases hS i hs with h2 | h2
   ·exact h.ng i hi x hxm h2
   ·have := (h.lt i (.inr (.inl hi))).2; omega
 ·rw [List.pairwise_append]
  refine ⟨hpw.1, by simp, fun a ha b hb i hi hbi => ?_⟩
  obtain rfl : b = _ := by simpa using hb
  rcases hS i hbi with h2 | h2
  ·exact hpw.2.2 a ha x (by simp) i hi h2
  ·have := (h.lt i (.inr (.inr ⟨a, hm a ha, hi⟩))).2; omega
 ·rcases List.mem_append.1 he with he | he
  ·exact h.evs e (hm e he)
  ·obtain rfl : e = _ := by simpa using he
   show s'.base ≤ _
   rw [hbs]
   exact h.evs x hxm
end
end Go.Proofs.YtdlnafhhkpklmaaGreatDoor
/- A log's files and its segments: plain laws. -/
namespace Go.Proofs.YtdlnafhhkpklmaaGreatDoor
open Go.RowKit Go.Fm Go.BigFrame Go.Shelf Go.Maps
set_option linter.unusedVariables false
set_option linter.unusedSimpArgs false
set_option maxRecDepth 100000
theorem curF_none {L : List Row} {F : ByteArray → ByteArray × Nat} {nm : ByteArray} (h : getL L nm = none) : curF L F nm = (ByteArray.empty, 0) := by unfold curF; rw [h]
theorem curF_some {L : List Row} {F : ByteArray → ByteArray × Nat} {nm : ByteArray} {fb : Nat} (h : getL L nm = some fb) : curF L F nm = F nm := by unfold curF; rw [h]
/-- What the files of a log hold. -/
structure LgF (p : ByteArray) (beg : Int) (ss : List Seg) (L : List Row) (F : ByteArray → ByteArray × Nat) : Prop where
 file : ∀ s ∈ ss, (curF L F (nmS p s.base)).1 = catB s.l
 safe : ∀ s ∈ ss.dropLast, curF L F (nmS p s.base) = (catB s.l, (catB s.l).size)
 own : ∀ nm, (getL L nm).isSome = true → Lib.hasPrefix nm.data.toList (dashS p).data.toList = true → ∃ s ∈ ss, nm = nmS p s.base
 strt : (getL L (startS p) = none ∧ beg = 0) ∨ ((getL L (startS p)).isSome = true ∧ F (startS p) = (fix8 beg.toNat, 8))
 rise : ss.Pairwise fun a b => a.base < b.base ∧ a.end' ≤ b.base
 bb : ∀ s ∈ ss, s.base ≤ 1099511627776
 full : ∀ s ∈ ss.dropLast, s.l ≠ []
/-- Files that are not a log's are as they were. -/
def Others (p : ByteArray) (L : List Row) (F : ByteArray → ByteArray × Nat) (L' : List Row) (F' : ByteArray → ByteArray × Nat) : Prop :=
 ∀ nm, ¬ mine p nm → (getL L' nm).isSome = (getL L nm).isSome ∧ F' nm = F nm
theorem Others.refl (p : ByteArray) (L : List Row) (F : ByteArray → ByteArray × Nat) : Others p L F L F := fun _ _ => ⟨rfl, rfl⟩
theorem Others.trans {p : ByteArray} {L L' L'' : List Row} {F F' F'' : ByteArray → ByteArray × Nat} (h : Others p L F L' F') (k : Others p L' F' L'' F'') : Others p L F L'' F'' :=
 fun nm hn => ⟨(k nm hn).1.trans (h nm hn).1, (k nm hn).2.trans (h nm hn).2⟩
theorem curF_congr {L L' : List Row} {F F' : ByteArray → ByteArray × Nat} {nm : ByteArray} (h1 : (getL L' nm).isSome = (getL L nm).isSome) (h2 : F' nm = F nm) : curF L' F' nm = curF L F nm := by
 unfold curF
 cases e : getL L nm with
 | none =>
  rw [e] at h1
  cases e' : getL L' nm with
  | none => rfl
  | some a => rw [e'] at h1; cases h1
 | some b =>
  rw [e] at h1
  cases e' : getL L' nm with
  | none => rw [e'] at h1; cases h1
  | some a => exact h2
/-- Where a log ends. -/
def ssEnd (beg : Int) (ss : List Seg) : Int := match ss.getLast? with
 | none => beg
 | some s => s.end'
theorem ssEnd_map (beg : Int) (es : List PE) : ssEnd beg (es.map (·.s)) = lgEnd beg es := by
 unfold ssEnd lgEnd
 rw [List.getLast?_map]
 cases es.getLast? <;> rfl
theorem snoc_last {α : Type} {l : List α} {x : α} (h : l.getLast? = some x) : l.dropLast ++ [x] = l := by
 rw [List.getLast?_eq_some_iff] at h
 obtain ⟨r, rfl⟩ := h
 rw [List.dropLast_concat]
/-- A batch behind the others. -/
def appS (lim ev : Nat) (beg : Int) (ss : List Seg) (b : Bat) : List Seg := match ss.getLast? with
 | none => [⟨beg.toNat, ev, [b]⟩]
 | some s => if lim ≤ sumB s.l then ss ++ [⟨s.end'.toNat, ev, [b]⟩] else ss.dropLast ++ [s.push b]
def catL (ss : List Seg) : List Bat := ss.flatMap (·.l)
theorem catL_app (lim ev : Nat) (beg : Int) (ss : List Seg) (b : Bat) : catL (appS lim ev beg ss b) = catL ss ++ [b] := by
 unfold appS catL
 cases h : ss.getLast? with
 | none =>
  rw [List.getLast?_eq_none_iff] at h
  subst h
  rfl
 | some s =>
  dsimp only
  split
  ·rw [List.flatMap_append]; rfl
  ·have h9 := snoc_last h
   conv => rhs; rw [← h9]
   rw [List.flatMap_append, List.flatMap_append, List.append_assoc]
   congr 1
   simp [Seg.push]
end Go.Proofs.YtdlnafhhkpklmaaGreatDoor
/- A log's files under an append, a sync, a new segment: plain laws. -/
namespace Go.Proofs.YtdlnafhhkpklmaaGreatDoor
open Go.RowKit Go.Fm Go.BigFrame Go.Shelf Go.Maps
set_option linter.unusedVariables false
set_option linter.unusedSimpArgs false
set_option maxRecDepth 100000
section
variable {p : ByteArray} {beg : Int} {ss ss0 : List Seg} {s s' : Seg} {L L' : List Row} {F F' : ByteArray → ByteArray × Nat} {nm t : ByteArray} {n k : Nat}
def HasNew (L L' : List Row) (nm : ByteArray) : Prop := ∀ x, (getL L' x).isSome = true ↔ (getL L x).isSome = true ∨ x = nm
theorem HasNew.same (h : (getL L nm).isSome = true) : HasNew L L nm := fun x => ⟨.inl, fun h1 => h1.elim id fun e => by rw [e]; exact h⟩
theorem HasNew.of (h1 : (∃ fb, getL L nm = some fb) → L' = L) (h2 : getL L nm = none → ∃ fb, L' = putR L nm fb) : HasNew L L' nm := by
 cases h : getL L nm with
 | some fb => rw [h1 ⟨fb, h⟩]; exact HasNew.same (by rw [h]; rfl)
 | none =>
  obtain ⟨fb, e⟩ := h2 h
  intro x
  rw [e, getL_put]
  by_cases hx : x = nm
  ·simp [hx]
  ·simp [hx]
theorem HasNew.eq (h : HasNew L L' nm) {x : ByteArray} (hx : x ≠ nm) : (getL L' x).isSome = (getL L x).isSome := by
 have h1 := h x
 cases e : (getL L x).isSome <;> cases e' : (getL L' x).isSome <;> simp_all
theorem curF_upd (h : HasNew L L' nm) (x : ByteArray) : curF L' (updF F nm t n) x = if x = nm then (t, n) else curF L F x := by
 by_cases hx : x = nm
 ·subst hx
  rw [if_pos rfl]
  have h1 := (h x).2 (.inr rfl)
  cases e : getL L' x with
  | none => rw [e] at h1; cases h1
  | some fb => rw [curF_some e, updF_same]
 ·rw [if_neg hx]
  exact curF_congr (h.eq hx) (updF_ne hx)
theorem start_ne (p : ByteArray) (b : Nat) : startS p ≠ nmS p b := fun e => by
 have h1 := nmS_pre p b
 rw [← e, start_pre] at h1
 cases h1
theorem LgF.ne (h : LgF p beg (ss0 ++ [s]) L F) {a : Seg} (ha : a ∈ ss0) : nmS p a.base ≠ nmS p s.base := fun e => by
 have h1 := (List.pairwise_append.1 h.rise).2.2 a ha s (by simp)
 have h2 := nmS_inj (h.bb a (List.mem_append.2 (.inl ha))) (h.bb s (List.mem_append.2 (.inr (by simp)))) e
 omega
theorem LgF.upd (h : LgF p beg (ss0 ++ [s]) L F) (hb : s'.base = s.base) (ht : t = catB s'.l) (hI : HasNew L L' (nmS p s.base)) : LgF p beg (ss0 ++ [s']) L' (updF F (nmS p s.base) t n) := by
 have hold : ∀ a ∈ ss0, a ∈ ss0 ++ [s] := fun a ha => List.mem_append.2 (.inl ha)
 have hr := List.pairwise_append.1 h.rise
 refine ⟨fun a ha => ?_, fun a ha => ?_, fun x h1 h2 => ?_, ?_, ?_, fun a ha => ?_, fun a ha => h.full a (by rw [List.dropLast_concat] at ha ⊢; exact ha)⟩
 ·rw [curF_upd hI]
  rcases List.mem_append.1 ha with ha | ha
  ·rw [if_neg (h.ne ha)]; exact h.file a (hold a ha)
  ·obtain rfl : a = s' := by simpa using ha
   rw [hb, if_pos rfl]; exact ht
 ·rw [List.dropLast_concat] at ha
  rw [curF_upd hI, if_neg (h.ne ha)]
  exact h.safe a (by rw [List.dropLast_concat]; exact ha)
 ·rcases (hI x).1 h1 with h3 | h3
  ·obtain ⟨a, ha, e⟩ := h.own x h3 h2
   rcases List.mem_append.1 ha with ha | ha
   ·exact ⟨a, List.mem_append.2 (.inl ha), e⟩
   ·obtain rfl : a = s := by simpa using ha
    exact ⟨s', List.mem_append.2 (.inr (by simp)), by rw [hb]; exact e⟩
  ·exact ⟨s', List.mem_append.2 (.inr (by simp)), by rw [hb]; exact h3⟩
 ·rcases h.strt with ⟨h1, h2⟩ | ⟨h1, h2⟩
  ·left
   refine ⟨?_, h2⟩
   have h3 := hI.eq (start_ne p s.base)
   rw [h1] at h3
   cases e : getL L' (startS p) with
   | none => rfl
   | some a => rw [e] at h3; cases h3
  ·right
   rw [updF_ne (start_ne p s.base)]
   exact ⟨by rw [hI.eq (start_ne p s.base)]; exact h1, h2⟩
 ·rw [List.pairwise_append]
  refine ⟨hr.1, by simp, fun a ha b hb' => ?_⟩
  obtain rfl : b = s' := by simpa using hb'
  have := hr.2.2 a ha s (by simp)
  rw [hb]; exact this
 ·rcases List.mem_append.1 ha with ha | ha
  ·exact h.bb a (hold a ha)
  ·obtain rfl : a = s' := by simpa using ha
   rw [hb]; exact h.bb s (List.mem_append.2 (.inr (by simp)))
def LastSafe (p : ByteArray) (ss : List Seg) (L : List Row) (F : ByteArray → ByteArray × Nat) : Prop := ∀ s, ss.getLast? = some s → curF L F (nmS p s.base) = (catB s.l, (catB s.l).size)
theorem LgF.all_safe (h : LgF p beg ss L F) (hl : LastSafe p ss L F) : ∀ s ∈ ss, curF L F (nmS p s.base) = (catB s.l, (catB s.l).size) := fun s hs => by
 cases e : ss.getLast? with
 | none => rw [List.getLast?_eq_none_iff] at e; subst e; cases hs
 | some x =>
  have h1 := snoc_last e
  rw [← h1] at hs
  rcases List.mem_append.1 hs with hs | hs
  ·exact h.safe s hs
  ·obtain rfl : s = x := by simpa using hs
   exact hl s e
theorem LgF.snew (h : LgF p beg ss L F) (hl : LastSafe p ss L F) (hfl : ∀ a, ss.getLast? = some a → a.l ≠ []) (hn : s.l = []) (hb : ∀ a ∈ ss, a.base < s.base ∧ a.end' ≤ s.base) (hbb : s.base ≤ 1099511627776) : LgF p beg (ss ++ [s]) L F ∧ getL L (nmS p s.base) = none := by
 have hg : getL L (nmS p s.base) = none := by
  cases e : getL L (nmS p s.base) with
  | none => rfl
  | some fb =>
   obtain ⟨a, ha, e2⟩ := h.own _ (by rw [e]; rfl) (nmS_pre p s.base)
   have h1 := nmS_inj hbb (h.bb a ha) e2
   have := (hb a ha).1
   omega
 refine ⟨⟨fun a ha => ?_, fun a ha => ?_, fun x h1 h2 => ?_, h.strt, ?_, fun a ha => ?_, fun a ha => ?_⟩, hg⟩
 rotate_right
 ·rw [List.dropLast_concat] at ha
  cases e : ss.getLast? with
  | none => rw [List.getLast?_eq_none_iff] at e; subst e; cases ha
  | some x =>
   have h1 := snoc_last e
   rw [← h1] at ha
   rcases List.mem_append.1 ha with ha | ha
   ·exact h.full a ha
   ·obtain rfl : a = x := by simpa using ha
    exact hfl a e
 ·rcases List.mem_append.1 ha with ha | ha
  ·exact h.file a ha
  ·obtain rfl : a = s := by simpa using ha
   rw [curF_none hg, hn]; rfl
 ·rw [List.dropLast_concat] at ha
  exact h.all_safe hl a ha
 ·obtain ⟨a, ha, e⟩ := h.own x h1 h2
  exact ⟨a, List.mem_append.2 (.inl ha), e⟩
 ·rw [List.pairwise_append]
  refine ⟨h.rise, by simp, fun a ha b hb' => ?_⟩
  obtain rfl : b = s := by simpa using hb'
  exact hb a ha
 ·rcases List.mem_append.1 ha with ha | ha
  ·exact h.bb a ha
  ·obtain rfl : a = s := by simpa using ha
   exact hbb
/-- The first k batches of a log are safe. -/
def SafeN (p : ByteArray) (ss : List Seg) (L : List Row) (F : ByteArray → ByteArray × Nat) (k : Nat) : Prop :=
 k ≤ (catL ss.dropLast).length ∨ ∃ s j, ss.getLast? = some s ∧ j ≤ s.l.length ∧ sumB (s.l.take j) ≤ (curF L F (nmS p s.base)).2 ∧ k ≤ (catL ss.dropLast).length + j
theorem catL_concat (ss : List Seg) (s : Seg) : catL (ss ++ [s]) = catL ss ++ s.l := by unfold catL; rw [List.flatMap_append]; simp
theorem SafeN.upd (h : SafeN p (ss0 ++ [s]) L F k) (hb : s'.base = s.base) (hl : s.l <+: s'.l) (hn : (curF L F (nmS p s.base)).2 ≤ n) (hI : HasNew L L' (nmS p s.base)) : SafeN p (ss0 ++ [s']) L' (updF F (nmS p s.base) t n) k := by
 unfold SafeN at h ⊢
 rw [List.dropLast_concat, List.getLast?_concat] at h ⊢
 refine h.imp id ?_
 rintro ⟨x, j, e, h1, h2, h3⟩
 injection e with e
 subst e
 obtain ⟨r, hr⟩ := hl
 refine ⟨s', j, rfl, by rw [← hr, List.length_append]; omega, ?_, h3⟩
 rw [hb, curF_upd hI, if_pos rfl, ← hr, List.take_append_of_le_length h1]
 exact Nat.le_trans h2 hn
theorem SafeN.all (hl : LastSafe p ss L F) (hk : k ≤ (catL ss).length) : SafeN p ss L F k := by
 cases e : ss.getLast? with
 | none => rw [List.getLast?_eq_none_iff] at e; subst e; exact .inl hk
 | some x =>
  right
  have h1 := snoc_last e
  refine ⟨x, x.l.length, e, Nat.le_refl _, ?_, ?_⟩
  ·rw [hl x e, List.take_length]
   show _ ≤ (catB x.l).size
   rw [catB_size]
   exact Nat.le_refl _
  ·conv at hk => rhs; rw [← h1]
   rw [catL_concat, List.length_append] at hk
   exact hk
theorem SafeN.le (h : SafeN p ss L F k) : k ≤ (catL ss).length := by
 rcases h with h | ⟨s, j, e, h1, h2, h3⟩
 ·cases e : ss.getLast? with
  | none => rw [List.getLast?_eq_none_iff] at e; subst e; exact h
  | some x =>
   have h1 := snoc_last e
   conv => rhs; rw [← h1]
   rw [catL_concat, List.length_append]
   omega
 ·have h4 := snoc_last e
  conv => rhs; rw [← h4]
  rw [catL_concat, List.length_append]
  omega
theorem SafeN.snew (h : SafeN p ss L F k) : SafeN p (ss ++ [s]) L F k := .inl (by rw [List.dropLast_concat]; exact h.le)
theorem Chn.lt_end {q : Int} {l : List Bat} (h : Chn q l) (hn : l ≠ []) : q < endOf q l := by
 cases h with
 | nil => exact absurd rfl hn
 | cons h1 h2 h3 => rw [endOf_cons]; have := h3.end_ge; have := h1.span0; omega
theorem ne_mine {x : ByteArray} {b : Nat} (h : ¬ mine p x) : x ≠ nmS p b := fun e => h (.inl (by rw [e]; exact nmS_pre p b))
theorem Others.upd (hI : HasNew L L' (nmS p n)) : Others p L F L' (updF F (nmS p n) t k) := fun x hx => ⟨hI.eq (ne_mine hx), updF_ne (ne_mine hx)⟩
end
end Go.Proofs.YtdlnafhhkpklmaaGreatDoor
/- A log and its disk, bundled: a batch more, a sync, a new segment. -/
namespace Go.Proofs.YtdlnafhhkpklmaaGreatDoor
open Go.RowKit Go.Fm Go.BigFrame Go.Shelf Go.Maps
set_option linter.unusedVariables false
set_option linter.unusedSimpArgs false
set_option maxRecDepth 100000
section
variable {w w' : World} {lb db mb : Nat} {p : ByteArray} {lim ev : Nat} {beg : Int} {es : List PE} {own : Bool} {L L' : List Row} {S S' : Nat → Prop} {room used fuse : Int} {F F' : ByteArray → ByteArray × Nat} {B n : Nat}
theorem burn_wf (h : (Lit.int .i64 fuse).wf = true) : (Lit.int .i64 (burn fuse)).wf = true := by
 unfold burn
 simp [Lit.wf, IntKind.min, IntKind.max, IntKind.signed, IntKind.bits] at h ⊢
 split <;> omega
def segsOf (es : List PE) : List Seg := es.map (·.s)
/-- A log and the disk that it lies on. -/
structure LogD (B : Nat) (w : World) (lb db mb : Nat) (p : ByteArray) (lim ev : Nat) (beg : Int) (es : List PE) (own : Bool) (L : List Row) (S : Nat → Prop) (room used fuse : Int) (F : ByteArray → ByteArray × Nat) (n : Nat) : Prop where
 lg : Lg B w lb db mb p lim ev beg es own L S
 dk : Dk w db mb room used fuse L F
 ok : DkOK room used fuse L F
 us : used = usd L F
 ur : used ≤ room
 rm : room ≤ 4194304
 fl : LgF p beg (segsOf es) L F
 dl : ∀ i, DkS db mb L i → B ≤ i
 b1 : 1 ≤ B
 nL : L.length ≤ n
 nE : es.length ≤ n
 nB : (catL (segsOf es)).length ≤ n
 n1 : n ≤ 700
 be : beg ≤ lgEnd beg es
theorem LogD.b2 (h : LogD B w lb db mb p lim ev beg es own L S room used fuse F n) : B ≤ w.heap.size := by
 have := h.dl db (.inl rfl)
 have := h.dk.lt (.inl rfl)
 omega
theorem LogD.fr {R : Nat → Prop} (h : LogD B w lb db mb p lim ev beg es own L S room used fuse F n) (hf : Fr R w w') (hd : ∀ i, S i ∨ DkS db mb L i → ¬ R i) : LogD B w' lb db mb p lim ev beg es own L S room used fuse F n :=
 ⟨h.lg.fr hf fun i hi => hd i (.inl hi), h.dk.fr hf fun i hi => hd i (.inr hi), h.ok, h.us, h.ur, h.rm, h.fl, h.dl, h.b1, h.nL, h.nE, h.nB, h.n1, h.be⟩
theorem LogD.old (h : LogD B w lb db mb p lim ev beg es own L S room used fuse F n) (hf : Fr (fun _ => False) w w') : LogD B w' lb db mb p lim ev beg es own L S room used fuse F n := h.fr hf fun _ _ h => h
theorem LogD.nz (h : LogD B w lb db mb p lim ev beg es own L S room used fuse F n) {i : Nat} (hi : S i ∨ DkS db mb L i) : i ≠ 0 := by
 have hb := h.b1
 rcases hi with hi | hi
 ·have := (h.lg.lt hi).1; omega
 ·have := h.dl i hi; omega
theorem LogD.lt (h : LogD B w lb db mb p lim ev beg es own L S room used fuse F n) {i : Nat} (hi : S i ∨ DkS db mb L i) : B ≤ i ∧ i < w.heap.size := by
 rcases hi with hi | hi
 ·exact h.lg.lt hi
 ·exact ⟨h.dl i hi, h.dk.lt hi⟩
theorem LogD.file_le (h : LogD B w lb db mb p lim ev beg es own L S room used fuse F n) : ∀ r ∈ L, (F r.1).1.size ≤ 4194304 := fun r hr => by
 have h1 := usd_mem (F := F) hr
 have h2 := h.us
 have h3 := h.ur
 have h4 := h.rm
 omega
theorem LogD.last_le (h : LogD B w lb db mb p lim ev beg es own L S room used fuse F n) {x : PE} (hx : x ∈ es) : sumB x.s.l ≤ 4194304 ∧ x.s.l.length ≤ n := by
 have h1 := h.fl.file x.s (List.mem_map.2 ⟨x, hx, rfl⟩)
 constructor
 ·rw [← catB_size, ← h1]
  cases e : getL L (nmS p x.s.base) with
  | none => rw [curF_none e]; show (ByteArray.empty).size ≤ _; exact Nat.zero_le _
  | some fb => rw [curF_some e]; exact h.file_le _ (getL_some e)
 ·have h2 := h.nB
  have h3 : x.s.l.length ≤ (catL (segsOf es)).length := by
   obtain ⟨a, b, e⟩ := List.append_of_mem hx
   unfold catL segsOf
   rw [e, List.map_append, List.map_cons, List.flatMap_append, List.flatMap_cons, List.length_append, List.length_append]
   omega
  omega
theorem LogD.more (h : LogD B w lb db mb p lim ev beg es own L S room used fuse F n) {m : Nat} (hm : n ≤ m) (h2 : m ≤ 700) : LogD B w lb db mb p lim ev beg es own L S room used fuse F m :=
 ⟨h.lg, h.dk, h.ok, h.us, h.ur, h.rm, h.fl, h.dl, h.b1, Nat.le_trans h.nL hm, Nat.le_trans h.nE hm, Nat.le_trans h.nB hm, h2, h.be⟩
/-- Blocks behind a call: those ahead of it, or new ones. -/
def Foot (db mb : Nat) (w w' : World) (S : Nat → Prop) (L : List Row) (S' : Nat → Prop) (L' : List Row) : Prop := (∀ i, S' i → S i ∨ (w.heap.size ≤ i ∧ i < w'.heap.size)) ∧ ∀ i, DkS db mb L' i → DkS db mb L i ∨ (w.heap.size ≤ i ∧ i < w'.heap.size)
theorem Foot.refl (w w' : World) : Foot db mb w w' S L S L := ⟨fun _ h => .inl h, fun _ h => .inl h⟩
theorem Foot.trans {w2 : World} {S2 : Nat → Prop} {L2 : List Row} (h : Foot db mb w w' S L S' L') (k : Foot db mb w' w2 S' L' S2 L2) (h1 : w.heap.size ≤ w'.heap.size) (h2 : w'.heap.size ≤ w2.heap.size) : Foot db mb w w2 S L S2 L2 :=
 ⟨fun i hi => by
  rcases k.1 i hi with h3 | h3
  ·exact (h.1 i h3).imp id fun h => ⟨h.1, by omega⟩
  ·exact .inr ⟨by omega, h3.2⟩, fun i hi => by
  rcases k.2 i hi with h3 | h3
  ·exact (h.2 i h3).imp id fun h => ⟨h.1, by omega⟩
  ·exact .inr ⟨by omega, h3.2⟩⟩
theorem Foot.fr {w2 : World} (h : Foot db mb w w' S L S' L') (f : Fr (fun i => S i ∨ DkS db mb L i) w w') (k : Fr (fun i => S' i ∨ DkS db mb L' i) w' w2) : Fr (fun i => S i ∨ DkS db mb L i) w w2 :=
 f.trans k fun i hi => by
  rcases hi with hi | hi
  ·exact (h.1 i hi).imp .inl fun h => h.1
  ·exact (h.2 i hi).imp .inr fun h => h.1
theorem segs_concat (es0 : List PE) (x : PE) : segsOf (es0 ++ [x]) = segsOf es0 ++ [x.s] := by simp [segsOf]
theorem lgEnd_concat (beg : Int) (es0 : List PE) (x : PE) : lgEnd beg (es0 ++ [x]) = x.s.end' := by unfold lgEnd; rw [List.getLast?_concat]
/-- The last segment has a batch more. -/
def Pushed (B : Nat) (w : World) (lb db mb : Nat) (p : ByteArray) (lim ev : Nat) (beg : Int) (es0 : List PE) (x : PE) (own : Bool) (L : List Row) (S : Nat → Prop) (room used fuse : Int) (F : ByteArray → ByteArray × Nat) (n : Nat) (b : Bat) (w' : World) : Prop :=
 ∃ S1 L' S' F', LogD B w' lb db mb p lim ev beg (es0 ++ [⟨x.sb, x.s.push b, S1⟩]) own L' S' room (used + bsz b) (burn fuse) F' (n + 1) ∧ Others p L F L' F' ∧ (∀ k, SafeN p (segsOf (es0 ++ [x])) L F k → SafeN p (segsOf (es0 ++ [⟨x.sb, x.s.push b, S1⟩])) L' F' k) ∧ (getL L' (nmS p x.s.base)).isSome = true ∧ Foot db mb w w' S L S' L' ∧ Fr (fun i => S i ∨ DkS db mb L i) w w'
theorem LogD.pushed {es0 : List PE} {x : PE} (h : LogD B w lb db mb p lim ev beg (es0 ++ [x]) own L S room used fuse F n) (hn : n < 700) {b : Bat} (hb : BatOK b) (he : x.s.end' ≤ b.base) (hr : used + bsz b ≤ room)
  (hok : SAppOK B w x.sb db mb (nmS p x.s.base) x.s x.S b room used fuse L F w') : Pushed B w lb db mb p lim ev beg es0 x own L S room used fuse F n b w' := by
 obtain ⟨S1, L', hs1, hd1, hL1, hL2, hap1, hS1, hD1, hf1⟩ := hok
 obtain ⟨sv, G, hV, hSS⟩ := h.lg
 have hxm : x ∈ es0 ++ [x] := List.mem_append.2 (.inr (by simp))
 have hxS : ∀ i, x.S i → S i := fun i hi => (hSS i).2 (.inr (.inr ⟨x, hxm, hi⟩))
 have V' := hV.last hf1 hs1 hS1 hap1 (fun i hi => (hD1 i hi).imp id fun h => h.1) rfl
 have hI := HasNew.of hL1 hL2
 have hfl := h.fl
 have hbb := hfl.file x.s (by rw [segs_concat]; exact List.mem_append.2 (.inr (by simp)))
 rw [segs_concat] at hfl
 have hB := h.b2
 have hus : used + bsz b = usd L' (updF F (nmS p x.s.base) ((curF L F (nmS p x.s.base)).1 ++ batS b) (curF L F (nmS p x.s.base)).2) := by
  have h1 := h.us
  cases e : getL L (nmS p x.s.base) with
  | some fb =>
   have h2 := hL1 ⟨fb, e⟩
   have h3 := usd_upd (F := F) (nm := nmS p x.s.base) (t := (curF L F (nmS p x.s.base)).1 ++ batS b) (n := (curF L F (nmS p x.s.base)).2) h.dk.m.1.nodup ⟨_, getL_some e, rfl⟩
   rw [ByteArray.size_append, curF_some e] at h3
   rw [h2, curF_some e]
   unfold bsz
   omega
  | none =>
   obtain ⟨fb, h2⟩ := hL2 e
   rw [h2, getL_put_row e, curF_none e]
   have h3 : usd L (updF F (nmS p x.s.base) ((ByteArray.empty, 0).1 ++ batS b) (ByteArray.empty, 0).2) = usd L F := usd_congr fun r hr => by
    rw [updF_ne]
    intro e2
    have h4 : (getL L r.1).isSome = true := by
     unfold getL
     rw [Option.isSome_map, List.find?_isSome]
     exact ⟨r, hr, by simp⟩
    rw [e2, e] at h4
    cases h4
   unfold usd at h3 h1 ⊢
   rw [List.map_cons, List.sum_cons, h3]
   dsimp only
   rw [updF_same, ByteArray.size_append]
   show used + _ = ((0 + bsz b + _ : Nat) : Int)
   omega
 have hcle : (curF L F (nmS p x.s.base)).2 ≤ (curF L F (nmS p x.s.base)).1.size := by
  cases e : getL L (nmS p x.s.base) with
  | some fb => rw [curF_some e]; exact (h.ok.fs _ (getL_some e)).2
  | none => rw [curF_none e]; exact Nat.le_refl _
 have hrm := h.rm
 have hu0 := h.ok.u0
 refine ⟨S1, L', _, _, ⟨⟨sv, G, V', fun i => Iff.rfl⟩, hd1, ⟨by omega, by omega, burn_wf h.ok.fw, fun r hr => ?_⟩, hus, hr, h.rm, ?_, fun i hi => ?_, h.b1, ?_, ?_, ?_, by omega, ?_⟩, Others.upd hI, fun k hk => ?_, (hI _).2 (.inr rfl), ⟨fun i hi => ?_, hD1⟩, hf1.mono fun i hi => .inl (hi.imp (hxS i) id)⟩
 ·have h1 := usd_mem (F := updF F (nmS p x.s.base) ((curF L F (nmS p x.s.base)).1 ++ batS b) (curF L F (nmS p x.s.base)).2) hr
  refine ⟨by omega, ?_⟩
  by_cases e : r.1 = nmS p x.s.base
  ·rw [e, updF_same, ByteArray.size_append]
   show _ ≤ _ + _
   omega
  ·rw [updF_ne e]
   have h2 : (getL L' r.1).isSome = true := by
    unfold getL
    rw [Option.isSome_map, List.find?_isSome]
    exact ⟨r, hr, by simp⟩
   rw [hI.eq e] at h2
   obtain ⟨fb, h3⟩ := Option.isSome_iff_exists.1 h2
   exact (h.ok.fs _ (getL_some h3)).2
 ·rw [segs_concat]
  refine hfl.upd (s' := x.s.push b) rfl ?_ hI
  rw [hbb]
  exact (catB_snoc _ _).symm
 ·rcases hD1 i hi with h1 | h1
  ·exact h.dl i h1
  ·omega
 ·have hnL := h.nL
  cases e : getL L (nmS p x.s.base) with
  | some fb => rw [hL1 ⟨fb, e⟩]; omega
  | none => obtain ⟨fb, h2⟩ := hL2 e; rw [h2, getL_put_row e, List.length_cons]; omega
 ·have h1 := h.nE
  rw [List.length_append] at h1 ⊢
  simp only [List.length_singleton] at h1 ⊢
  omega
 ·have h1 := h.nB
  rw [segs_concat, catL_concat, List.length_append] at h1 ⊢
  show _ + (x.s.l ++ [b]).length ≤ _
  rw [List.length_append, List.length_singleton]
  omega
 ·have h1 := h.be
  rw [lgEnd_concat] at h1 ⊢
  show _ ≤ (x.s.push b).end'
  rw [Seg.end_push]
  have := hb.span0
  omega
 ·rw [segs_concat] at hk ⊢
  exact hk.upd (s' := x.s.push b) rfl ⟨[b], rfl⟩ (Nat.le_refl _) hI
 ·rcases hi with hi | hi | ⟨e, he, hi⟩
  ·exact .inl ((hSS i).2 (.inl hi))
  ·exact .inl ((hSS i).2 (.inr (.inl hi)))
  ·rcases List.mem_append.1 he with he | he
   ·exact .inl ((hSS i).2 (.inr (.inr ⟨e, List.mem_append.2 (.inl he), hi⟩)))
   ·obtain rfl : e = _ := by simpa using he
    exact (hS1 i hi).imp (hxS i) id
/-- The last segment's file is safe. -/
def Synced (B : Nat) (w : World) (lb db mb : Nat) (p : ByteArray) (lim ev : Nat) (beg : Int) (es : List PE) (own : Bool) (L : List Row) (S : Nat → Prop) (room used fuse : Int) (F : ByteArray → ByteArray × Nat) (n : Nat) (c : Int) (w' : World) : Prop :=
 ∃ fuse' F', LogD B w' lb db mb p lim ev beg es own L S room used fuse' F' n ∧ Others p L F L F' ∧ (∀ k, SafeN p (segsOf es) L F k → SafeN p (segsOf es) L F' k) ∧ (c = 0 → LastSafe p (segsOf es) L F') ∧ (c = 0 ∨ c = 7) ∧ (fuse = -1 → c = 0 ∧ fuse' = -1) ∧ (c ≠ 0 → fuse = 0) ∧ Fr (fun i => S i ∨ DkS db mb L i) w w'
theorem sum_nil {l : List Bat} (h : catB l = ByteArray.empty) : l = [] := by
 have h1 := catB_size l
 rw [h] at h1
 cases l with
 | nil => rfl
 | cons b l =>
  have h2 := bsz_pos b
  rw [sumB_cons] at h1
  have h3 : (ByteArray.empty).size = 0 := rfl
  omega
theorem LogD.synced {es0 : List PE} {x : PE} (h : LogD B w lb db mb p lim ev beg (es0 ++ [x]) own L S room used fuse F n) {e : Ending} (h2 : SSynPost w db mb room used fuse L F (nmS p x.s.base) e w') :
  ∃ c : Int, e = .returned (.int .i64 c) ∧ Synced B w lb db mb p lim ev beg (es0 ++ [x]) own L S room used fuse F n c w' := by
 obtain ⟨he, h3, h4, hf⟩ := h2
 refine ⟨_, he, ?_⟩
 have hfr := hf.mono (S' := fun i => S i ∨ DkS db mb L i) fun i hi => .inl (.inr hi)
 have hfile := h.fl.file x.s (by rw [segs_concat]; exact List.mem_append.2 (.inr (by simp)))
 have hlg := h.lg.fr hf fun i hi => h.lg.ap hi
 by_cases hfu : fuse = 0
 ·subst hfu
  have hc : synCode 0 L (nmS p x.s.base) = 7 := rfl
  rw [hc] at h3 h4 ⊢
  have hd := h4 (by decide)
  exact ⟨_, F, ⟨hlg, hd, h.ok, h.us, h.ur, h.rm, h.fl, h.dl, h.b1, h.nL, h.nE, h.nB, h.n1, h.be⟩, Others.refl _ _ _, fun k hk => hk, fun h => absurd h (by decide), .inr rfl, fun h => absurd h (by decide), fun _ => rfl, hfr⟩
 ·cases hg : getL L (nmS p x.s.base) with
  | none =>
   have hc : synCode fuse L (nmS p x.s.base) = 6 := by unfold synCode; rw [if_neg hfu, hg]; rfl
   rw [hc] at h3 h4 ⊢
   have hd := h4 (by decide)
   refine ⟨_, F, ⟨hlg, hd, h.ok, h.us, h.ur, h.rm, h.fl, h.dl, h.b1, h.nL, h.nE, h.nB, h.n1, h.be⟩, Others.refl _ _ _, fun k hk => hk, fun _ s hs => ?_, .inl rfl, fun h => ⟨rfl, h⟩, fun h => absurd rfl h, hfr⟩
   rw [segs_concat, List.getLast?_concat] at hs
   injection hs with hs
   subst hs
   rw [curF_none hg] at hfile ⊢
   have hl := sum_nil hfile.symm
   rw [hl]
   rfl
  | some fb =>
   have hc : synCode fuse L (nmS p x.s.base) = 0 := by unfold synCode; rw [if_neg hfu, hg]; rfl
   rw [hc] at h3 h4 ⊢
   have hd := h3 rfl
   rw [curF_some hg] at hfile
   have hI : HasNew L L (nmS p x.s.base) := HasNew.same (by rw [hg]; rfl)
   have hsz : ∀ r : Row, ((updF F (nmS p x.s.base) (F (nmS p x.s.base)).1 (F (nmS p x.s.base)).1.size) r.1).1 = (F r.1).1 := fun r => by
    unfold updF
    split
    ·rename_i e; rw [e]
    ·rfl
   have hle := (h.ok.fs _ (getL_some hg)).2
   have hfl := h.fl
   rw [segs_concat] at hfl
   have hcur : (curF L F (nmS p x.s.base)).2 ≤ (F (nmS p x.s.base)).1.size := by rw [curF_some hg]; exact hle
   refine ⟨_, _, ⟨hlg, hd, ⟨h.ok.u0, h.ok.u1, burn_wf h.ok.fw, fun r hr => ?_⟩, ?_, h.ur, h.rm, ?_, h.dl, h.b1, h.nL, h.nE, h.nB, h.n1, h.be⟩, Others.upd hI, fun k hk => ?_, fun _ s hs => ?_, .inl rfl, fun h => ⟨rfl, by rw [h]; rfl⟩, fun h => absurd rfl h, hfr⟩
   ·rw [hsz r]
    refine ⟨(h.ok.fs r hr).1, ?_⟩
    unfold updF
    split
    ·rename_i e; rw [e]; exact Nat.le_refl _
    ·exact (h.ok.fs r hr).2
   ·rw [h.us]
    congr 1
    exact (usd_congr fun r hr => by rw [hsz r]).symm
   ·rw [segs_concat]
    exact hfl.upd (s' := x.s) rfl hfile hI
   ·rw [segs_concat] at hk ⊢
    exact hk.upd (s' := x.s) rfl (List.prefix_refl _) hcur hI
   ·rw [segs_concat, List.getLast?_concat] at hs
    injection hs with hs
    subst hs
    rw [curF_upd hI, if_pos rfl]
    exact Prod.ext hfile (by rw [← hfile])
end
end Go.Proofs.YtdlnafhhkpklmaaGreatDoor
/- Append to a log: the walk. -/
namespace Go.Proofs.YtdlnafhhkpklmaaGreatDoor
open Go.RowKit Go.Fm Go.BigFrame Go.Shelf Go.Maps
set_option linter.unusedVariables false
set_option linter.unusedSimpArgs false
set_option maxRecDepth 100000
section
variable {B : Nat} {w w' : World} {lb db mb : Nat} {p : ByteArray} {lim ev : Nat} {beg : Int} {es : List PE} {own : Bool} {L : List Row} {S : Nat → Prop} {room used fuse : Int} {F : ByteArray → ByteArray × Nat}
def baseB (b : Bat) (n : Int) : Bat := ⟨n, b.span, b.prod, b.epoch, b.seq, b.recs⟩
theorem lappend_bad (h : Lg B w lb db mb p lim ev beg es own L S) (K : Nat → Prop) (b : Bat) (v : Value) (hr : RecsR K w v b.recs) (hb : ¬ BatOK (baseB b (lgEnd beg es))) (sync : Bool) :
  Calls Tryz.prog 13 #[.pointer (some ⟨lb, 0, none⟩), batV b v, .bool sync] w fun e w' => e = .returned (.tuple #[.int .i64 0, .int .i64 1]) ∧ Fr (fun _ => False) w w' := by
 obtain ⟨oa, cap, hv⟩ : ∃ a c, v = .slice a b.recs.length c := by obtain ⟨a, c, h, -⟩ := hr; exact ⟨a, c, h⟩
 subst hv
 have hfa := (Fr.same w).alloc (.cells (batBox b (.slice oa b.recs.length cap)) 36)
 have HE := Lib.hid (lend_walk (h.old hfa))
 have HR := Lib.hid hr
 have HB := Lib.hid hb
 have FA := Lib.hid hfa
 have X := Lib.hid (heap_alloc_self w (.cells (batBox b (.slice oa b.recs.length cap)) 36))
 unfold batBox at HE FA X
 unfold batV
 obtain ⟨E, hE⟩ : ∃ E, E = lgEnd beg es := ⟨_, rfl⟩
 rw [← hE] at HE HB
 clear h hr hb hfa hE
 go_enter Tryz.func13, Tryz.ntmps13
 go_wp2_with fail
 refine HE.out.mono ?_
 rintro e w1 ⟨rfl, hf⟩
 have F1 := Lib.hid (FA.out.tr hf)
 have X1 := Lib.hid ((hf.block _ (by simp) fun h => h).trans X.out)
 have c0 : w1.cell? ⟨w.heap.size, 0, none⟩ = some (.int .i64 b.base) := (cell_of X1.out 0).trans rfl
 have f0 := fz_of X1.out 0
 clear hf HE FA X
 have hX2 : (w1.setCell ⟨w.heap.size, 0, none⟩ (.int .i64 E)).heap[w.heap.size]? = some (.cells #[.int .i64 E, .int .i64 b.span, .int .i64 b.prod, .int .i64 b.epoch, .int .i64 b.seq, .slice oa b.recs.length cap] 36 (0, 0)) := by
  rw [heap_setCell_self X1.out]; rfl
 have hF2 : Fr (fun _ => False) w (w1.setCell ⟨w.heap.size, 0, none⟩ (.int .i64 E)) := Fr.setCell (S := fun _ => False) (p := ⟨w.heap.size, 0, none⟩) F1.out (.inr (Nat.le_refl _)) _
 obtain ⟨w2, hw2⟩ : ∃ w2, w2 = w1.setCell ⟨w.heap.size, 0, none⟩ (.int .i64 E) := ⟨_, rfl⟩
 rw [← hw2] at hX2 hF2
 have X2 := Lib.hid hX2
 have F2 := Lib.hid hF2
 have HCK := Lib.hid (bcheck_walk K (baseB b E) (.slice oa b.recs.length cap) w2 (HR.out.old hF2))
 have d0 : w2.cell? ⟨w.heap.size, 0, none⟩ = some (.int .i64 E) := (cell_of hX2 0).trans rfl
 have c1 : w2.cell? ⟨w.heap.size, 1, none⟩ = some (.int .i64 b.span) := (cell_of hX2 1).trans rfl
 have c2 : w2.cell? ⟨w.heap.size, 2, none⟩ = some (.int .i64 b.prod) := (cell_of hX2 2).trans rfl
 have c3 : w2.cell? ⟨w.heap.size, 3, none⟩ = some (.int .i64 b.epoch) := (cell_of hX2 3).trans rfl
 have c4 : w2.cell? ⟨w.heap.size, 4, none⟩ = some (.int .i64 b.seq) := (cell_of hX2 4).trans rfl
 have c5 : w2.cell? ⟨w.heap.size, 5, none⟩ = some (.slice oa b.recs.length cap) := (cell_of hX2 5).trans rfl
 unfold batV baseB at HCK
 dsimp only at HCK
 rw [hw2] at c1 c2 c3 c4 c5 d0 HCK
 clear hX2 hF2
 go_wp2_with fail
 rw [← hw2] at HCK ⊢
 refine HCK.out.mono ?_
 rintro e w3 ⟨c, rfl, hc, hf⟩
 have hc1 : c = 1 := by
  rcases hc with ⟨-, h1⟩ | ⟨h1, -⟩
  ·exact absurd h1 HB.out
  ·exact h1
 subst hc1
 have F3 := Lib.hid (F2.out.tr hf)
 clear hc hf
 go_wp2_with fail
 go_ret2
 exact ⟨rfl, F3.out⟩
end
end Go.Proofs.YtdlnafhhkpklmaaGreatDoor
/- A log has a new segment: laws; append of a pointer to a segment. -/
namespace Go.Proofs.YtdlnafhhkpklmaaGreatDoor
open Go.RowKit Go.Fm Go.BigFrame Go.Shelf Go.Maps
set_option linter.unusedVariables false
set_option linter.unusedSimpArgs false
set_option maxRecDepth 100000
section
variable {ops : Array Oper} {rest : List Oper} {o : Oper} {a : Act} {Q : Exit → Act → World → Prop}
theorem info96 : (Tryz.prog.info? 96).map (fun i => (i.zero, i.size, i.bytes)) = some (some (.pointer none), 1, 8) := by kernel_rfl
theorem wpList_push_seg (w : World) (hgd : o.guard = none) (s x : Operand) (ho : o.op = .call { callee := .builtin .append, args := #[s, x], argTypes := #[87, 87] })
  (B : Nat) (v : Value) (n : Nat) (xs : List Value) (hs : a.eval s = v) (hown : w.ownsRow B 96 1 v n xs) (g c : Nat) (hx : a.eval x = .slice (some ⟨g, 0, none⟩) 1 c) (pv : Option Addr)
  (hcell : w.cell? ⟨g, 0, none⟩ = some (.pointer pv)) (hlen : n < 1000000) (hB : B ≤ w.heap.size)
  (h : ∀ v' w', w'.ownsRow B 96 1 v' (n + 1) (xs ++ [.pointer pv]) → w.grownBy w' v.ownBlock → (v'.ownBlock = v.ownBlock ∨ v'.ownBlock = some w.heap.size) → wpList Tryz.prog ops Q rest (a.put o.dst v') w') : wpList Tryz.prog ops Q (o :: rest) a w := by
 obtain ⟨i, hi, hz, hs39, hb39⟩ := info_parts info96
 refine wpList_append_own2 w hgd s x 87 ho B 96 i _ 1 8 Tryz.underlying87 hi hz hs39 hb39 rfl (by decide) v n xs hs hown ⟨g, 0, none⟩ 1 c [.pointer pv] hx rfl ?_ ?_ (by unfold maxLen; omega) (by omega) hB h
 ·intro j u hj
  rw [add_lit]
  cases j with
  | zero => simp at hj; rw [hcell, hj]
  | succ j => simp at hj
 ·intro u hu
  simp only [List.mem_cons, List.not_mem_nil, or_false] at hu
  subst hu
  rfl
end
section
variable {w w' w1 w3 : World} {lb db mb : Nat} {p : ByteArray} {lim ev : Nat} {beg : Int} {es : List PE} {own : Bool} {L L' : List Row} {S S' : Nat → Prop} {room used fuse : Int} {F F' : ByteArray → ByteArray × Nat} {B n : Nat}
theorem LogD.redk (h : LogD B w lb db mb p lim ev beg es own L S room used fuse F n) (hf : Fr (DkS db mb L) w w') (hd : Dk w' db mb room used fuse L F) : LogD B w' lb db mb p lim ev beg es own L S room used fuse F n :=
 ⟨h.lg.fr hf fun i hi => h.lg.ap hi, hd, h.ok, h.us, h.ur, h.rm, h.fl, h.dl, h.b1, h.nL, h.nE, h.nB, h.n1, h.be⟩
theorem LogD.chn (h : LogD B w lb db mb p lim ev beg es own L S room used fuse F n) {s : Seg} (hs : s ∈ segsOf es) : Chn s.base s.l := by
 obtain ⟨e, he, rfl⟩ := List.mem_map.1 hs
 exact (h.lg.seg he).ok.ch
theorem LogD.under (h : LogD B w lb db mb p lim ev beg es own L S room used fuse F n) (hne : ∀ x, es.getLast? = some x → x.s.l ≠ []) : ∀ a ∈ segsOf es, (a.base : Int) < lgEnd beg es ∧ a.end' ≤ lgEnd beg es := by
 intro a ha
 cases e : es.getLast? with
 | none => rw [List.getLast?_eq_none_iff] at e; subst e; cases ha
 | some x =>
  have h1 := snoc_last e
  have hr := h.fl.rise
  have hE : lgEnd beg es = x.s.end' := by unfold lgEnd; rw [e]
  have hx : x.s ∈ segsOf es := List.mem_map.2 ⟨x, List.mem_of_getLast? e, rfl⟩
  have hlt : (x.s.base : Int) < x.s.end' := (h.chn hx).lt_end (hne x e)
  rw [hE]
  rw [← h1, segs_concat] at ha hr
  rcases List.mem_append.1 ha with ha | ha
  ·have := (List.pairwise_append.1 hr).2.2 a ha x.s (by simp)
   omega
  ·obtain rfl : a = x.s := by simpa using ha
   exact ⟨hlt, Int.le_refl _⟩
theorem last_segs {Pr : Seg → Prop} (h : ∀ x, es.getLast? = some x → Pr x.s) : ∀ s, (segsOf es).getLast? = some s → Pr s := fun s hs => by
 unfold segsOf at hs
 rw [List.getLast?_map] at hs
 obtain ⟨x, hx, rfl⟩ := Option.map_eq_some_iff.1 hs
 exact h x hx
theorem LogD.newseg {x : PE} {sv v' : Value} {G : Nat → Prop} (h : LogD B w1 lb db mb p lim ev beg es true L S room used fuse F n) (hn : n < 700) (hls : LastSafe p (segsOf es) L F) (hne : ∀ x, es.getLast? = some x → x.s.l ≠ [])
  (hxb : (x.s.base : Int) = lgEnd beg es) (hxl : x.s.l = []) (hx : Sg B w1 x.sb db (nmS p x.s.base) x.s x.S) (hxS : ∀ i, x.S i → B ≤ i ∧ i < w1.heap.size ∧ ¬ S i ∧ ¬ DkS db mb L i) (hbb : x.s.base ≤ 1099511627776)
  (hV : LgV B w1 lb db mb p lim ev beg es true L sv G) (hSS : ∀ i, S i ↔ lgFoot lb G es i) (hf : Fr (fun i => i = lb ∨ sv.ownBlock = some i) w1 w3) (hb : w3.heap[lb]? = some (lgObj p lim ev db beg v')) (ho : w3.ownsRow B 96 1 v' (es ++ [x]).length ((es ++ [x]).map segV))
  (hv : v'.ownBlock = sv.ownBlock ∨ ∃ g, v'.ownBlock = some g ∧ w1.heap.size ≤ g ∧ g < w3.heap.size) :
  ∃ S3, LogD B w3 lb db mb p lim ev beg (es ++ [x]) true L S3 room used fuse F (n + 1) ∧ (∀ k, SafeN p (segsOf es) L F k → SafeN p (segsOf (es ++ [x])) L F k) ∧ (∀ i, S3 i → S i ∨ x.S i ∨ (w1.heap.size ≤ i ∧ i < w3.heap.size)) ∧ catL (segsOf (es ++ [x])) = catL (segsOf es) ∧ lgEnd beg (es ++ [x]) = lgEnd beg es ∧ getL L (nmS p x.s.base) = none := by
 have hV3 := hV.push hf hb ho hv hx (fun i hi => ⟨(hxS i hi).1, (hxS i hi).2.1, fun h9 => (hxS i hi).2.2.1 ((hSS i).2 h9), (hxS i hi).2.2.2⟩) (fun i hi => h.dk.lt hi) (by have := h.nE; omega) hbb
 have hund := h.under hne
 have hsn := h.fl.snew (s := x.s) hls (last_segs hne) hxl (fun a ha => by have := hund a ha; rw [hxb]; omega) hbb
 have hcat : catL (segsOf (es ++ [x])) = catL (segsOf es) := by rw [segs_concat, catL_concat, hxl, List.append_nil]
 have hend : lgEnd beg (es ++ [x]) = lgEnd beg es := by
  rw [lgEnd_concat]
  unfold Seg.end'
  rw [hxl]
  exact hxb
 refine ⟨_, ⟨⟨_, _, hV3, fun i => Iff.rfl⟩, ?_, h.ok, h.us, h.ur, h.rm, by rw [segs_concat]; exact hsn.1, h.dl, h.b1, by have := h.nL; omega, ?_, ?_, by omega, by rw [hend]; exact h.be⟩, fun k hk => ?_, fun i hi => ?_, hcat, hend, hsn.2⟩
 ·exact h.dk.fr hf fun i hi h1 => by
   rcases h1 with h1 | h1
   ·exact hV.ap lb (.inl rfl) (h1 ▸ hi)
   ·exact hV.ap i (.inr (.inl ((hV.ow rfl).2 i h1))) hi
 ·have := h.nE
  rw [List.length_append, List.length_singleton]
  omega
 ·rw [hcat]
  have := h.nB
  omega
 ·rw [segs_concat]
  exact hk.snew
 ·rcases hi with hi | hi | ⟨e, he, hi⟩
  ·exact .inl ((hSS i).2 (.inl hi))
  ·rcases hv with h1 | ⟨g, h1, h2, h3⟩
   ·rw [h1] at hi
    exact .inl ((hSS i).2 (.inr (.inl ((hV.ow rfl).2 i hi))))
   ·rw [h1] at hi
    injection hi with hi
    subst hi
    exact .inr (.inr ⟨h2, h3⟩)
  ·rcases List.mem_append.1 he with he | he
   ·exact .inl ((hSS i).2 (.inr (.inr ⟨e, he, hi⟩)))
   ·obtain rfl : e = x := by simpa using he
    exact .inr (.inl hi)
/-- Behind an Append: what it answers, and the log. -/
def LApPost (B : Nat) (w : World) (lb db mb : Nat) (p : ByteArray) (lim ev : Nat) (beg : Int) (es : List PE) (own : Bool) (L : List Row) (S : Nat → Prop) (room used fuse : Int) (F : ByteArray → ByteArray × Nat) (n : Nat) (b : Bat) (sy : Bool) (e : Ending) (w' : World) : Prop :=
 ∃ (c : Int) (a : Bool) (es' : List PE) (L' : List Row) (S' : Nat → Prop) (used' fuse' : Int) (F' : ByteArray → ByteArray × Nat), e = .returned (.tuple #[.int .i64 (if c = 0 then b.base else 0), .int .i64 c]) ∧
  LogD B w' lb db mb p lim ev beg es' own L' S' room used' fuse' F' (n + 2) ∧ Others p L F L' F' ∧ (∀ k, SafeN p (segsOf es) L F k → SafeN p (segsOf es') L' F' k) ∧ Foot db mb w w' S L S' L' ∧ Fr (fun i => S i ∨ DkS db mb L i) w w' ∧
  (a = true → segsOf es' = appS lim ev beg (segsOf es) b ∧ used' = used + bsz b) ∧ (a = false → catL (segsOf es') = catL (segsOf es) ∧ lgEnd beg es' = lgEnd beg es ∧ used' = used) ∧ (c = 0 → a = true) ∧ (sy = false → a = true → c = 0) ∧ (¬ BatOK b → c = 1 ∧ segsOf es' = segsOf es) ∧
  (fuse = -1 → fuse' = -1 ∧ (BatOK b → used + bsz b ≤ room → c = 0)) ∧ (c = 0 → sy = true → LastSafe p (segsOf es') L' F')
theorem lapp_bad (D : LogD B w lb db mb p lim ev beg es own L S room used fuse F n) (hn : n < 699) (K : Nat → Prop) (b : Bat) (v : Value) (hr : RecsR K w v b.recs) (hb : ¬ BatOK (baseB b (lgEnd beg es))) (sy : Bool) :
  Calls Tryz.prog 13 #[.pointer (some ⟨lb, 0, none⟩), batV b v, .bool sy] w (LApPost B w lb db mb p lim ev beg es own L S room used fuse F n (baseB b (lgEnd beg es)) sy) := by
 refine (lappend_bad D.lg K b v hr hb sy).mono ?_
 rintro e w1 ⟨rfl, hf⟩
 exact ⟨1, false, es, L, S, used, fuse, F, rfl, (D.old hf).more (by omega) (by omega), Others.refl _ _ _, fun k h => h, Foot.refl _ _, hf.mono fun i h => h.elim, fun h => (by cases h), fun _ => ⟨rfl, rfl, rfl⟩, fun h => absurd h (by decide), fun _ h => (by cases h), fun _ => ⟨rfl, rfl⟩, fun h => ⟨h, fun h => absurd h hb⟩, fun h => absurd h (by decide)⟩
end
end Go.Proofs.YtdlnafhhkpklmaaGreatDoor
/- Append to a log, no new segment: the walk. -/
namespace Go.Proofs.YtdlnafhhkpklmaaGreatDoor
open Go.RowKit Go.Fm Go.BigFrame Go.Shelf Go.Maps
set_option linter.unusedVariables false
set_option linter.unusedSimpArgs false
set_option maxRecDepth 100000
section
variable {B : Nat} {w w' : World} {lb db mb : Nat} {p : ByteArray} {lim ev : Nat} {beg : Int} {es : List PE} {own : Bool} {L : List Row} {S : Nat → Prop} {room used fuse : Int} {F : ByteArray → ByteArray × Nat} {n : Nat}
set_option maxHeartbeats 8000000 in
theorem lapp_old {es0 : List PE} {x : PE} (D0 : LogD B w lb db mb p lim ev beg (es0 ++ [x]) true L S room used fuse F n) (hn : n < 699) (hlim : sumB x.s.l < lim) (hst : StepsOK w) (K : Nat → Prop) (hK : ∀ k, K k → ¬ S k ∧ ¬ DkS db mb L k) (b : Bat) (v : Value) (hr : RecsR K w v b.recs) (En : Nat) (hE : (En : Int) = lgEnd beg (es0 ++ [x])) (hb : BatOK (baseB b En)) (sy : Bool) :
  Calls Tryz.prog 13 #[.pointer (some ⟨lb, 0, none⟩), batV b v, .bool sy] w (LApPost B w lb db mb p lim ev beg (es0 ++ [x]) true L S room used fuse F n (baseB b En) sy) := by
 obtain ⟨oa, cap, hv⟩ : ∃ a c, v = .slice a b.recs.length c := by obtain ⟨a, c, h, -⟩ := hr; exact ⟨a, c, h⟩
 subst hv
 have hfa := (Fr.same w).alloc (.cells (batBox b (.slice oa b.recs.length cap)) 36)
 have hle := lend_walk (D0.lg.old hfa)
 rw [← hE] at hle
 have HE := Lib.hid hle
 have D := Lib.hid D0
 have HR := Lib.hid hr
 have HST := Lib.hid hst
 have HB := Lib.hid hb
 have HK := Lib.hid hK
 have EE := Lib.hid hE
 have FA := Lib.hid hfa
 have X := Lib.hid (heap_alloc_self w (.cells (batBox b (.slice oa b.recs.length cap)) 36))
 unfold batBox at HE FA X
 unfold batV
 clear D0 hr hb hfa hE hst hK hle
 go_enter Tryz.func13, Tryz.ntmps13
 go_wp2_with fail
 refine HE.out.mono ?_
 rintro e w1 ⟨rfl, hf⟩
 have F1 := Lib.hid (FA.out.tr hf)
 have X1 := Lib.hid ((hf.block _ (by simp) fun h => h).trans X.out)
 have c0 : w1.cell? ⟨w.heap.size, 0, none⟩ = some (.int .i64 b.base) := (cell_of X1.out 0).trans rfl
 have f0 := fz_of X1.out 0
 clear hf HE FA X
 have hX2 : (w1.setCell ⟨w.heap.size, 0, none⟩ (.int .i64 En)).heap[w.heap.size]? = some (.cells #[.int .i64 En, .int .i64 b.span, .int .i64 b.prod, .int .i64 b.epoch, .int .i64 b.seq, .slice oa b.recs.length cap] 36 (0, 0)) := by
  rw [heap_setCell_self X1.out]; rfl
 have hF2 : Fr (fun _ => False) w (w1.setCell ⟨w.heap.size, 0, none⟩ (.int .i64 En)) := Fr.setCell (S := fun _ => False) (p := ⟨w.heap.size, 0, none⟩) F1.out (.inr (Nat.le_refl _)) _
 obtain ⟨w2, hw2⟩ : ∃ w2, w2 = w1.setCell ⟨w.heap.size, 0, none⟩ (.int .i64 En) := ⟨_, rfl⟩
 rw [← hw2] at hX2 hF2
 have X2 := Lib.hid hX2
 have F2 := Lib.hid hF2
 have HCK := Lib.hid (bcheck_walk K (baseB b En) (.slice oa b.recs.length cap) w2 (HR.out.old hF2))
 have d0 : w2.cell? ⟨w.heap.size, 0, none⟩ = some (.int .i64 En) := (cell_of hX2 0).trans rfl
 have c1 : w2.cell? ⟨w.heap.size, 1, none⟩ = some (.int .i64 b.span) := (cell_of hX2 1).trans rfl
 have c2 : w2.cell? ⟨w.heap.size, 2, none⟩ = some (.int .i64 b.prod) := (cell_of hX2 2).trans rfl
 have c3 : w2.cell? ⟨w.heap.size, 3, none⟩ = some (.int .i64 b.epoch) := (cell_of hX2 3).trans rfl
 have c4 : w2.cell? ⟨w.heap.size, 4, none⟩ = some (.int .i64 b.seq) := (cell_of hX2 4).trans rfl
 have c5 : w2.cell? ⟨w.heap.size, 5, none⟩ = some (.slice oa b.recs.length cap) := (cell_of hX2 5).trans rfl
 unfold batV baseB at HCK
 dsimp only at HCK
 rw [hw2] at c1 c2 c3 c4 c5 d0 HCK
 clear hX2 hF2
 go_wp2_with fail
 rw [← hw2] at HCK ⊢
 refine HCK.out.mono ?_
 rintro e w3 ⟨c, rfl, hc, hf⟩
 have hc1 : c = 0 := by
  rcases hc with ⟨h1, -⟩ | ⟨-, h1⟩
  ·exact h1
  ·exact absurd HB.out h1
 subst hc1
 clear hc
 have F3 := Lib.hid (F2.out.tr hf)
 have X3 := Lib.hid ((hf.block _ (lt_of_heap X2.out) fun h => h).trans X2.out)
 have D3 := Lib.hid (D.out.old F3.out)
 have HLA := Lib.hid (last_walk D3.out.lg)
 have hlv : lastV (es0 ++ [x]) = segV x := by unfold lastV; rw [List.getLast?_concat]
 rw [hlv] at HLA
 unfold segV at HLA
 clear hlv
 have HW2 := Lib.hid hw2
 clear hf c1 c2 c3 c4 c5 d0 HCK X2 F2 hw2 HW2 c0 f0
 go_wp2_with fail
 refine HLA.out.mono ?_
 rintro e w4 ⟨rfl, hf⟩
 have F4 := Lib.hid (F3.out.tr hf)
 have D4 := Lib.hid (D3.out.old hf)
 have X4 := Lib.hid ((hf.block _ (lt_of_heap X3.out) fun h => h).trans X3.out)
 clear hf F3 D3 X3 HLA X1 F1
 have hlc : w4.cell? ⟨lb, 1, none⟩ = some (.int .i64 lim) := by
  obtain ⟨sv, G, h1, -⟩ := D4.out.lg
  exact (cell_of h1.b 1).trans rfl
 have y1 : ∀ y : Lcl.InS (fun w' => Fr (fun _ => False) w4 w'), y.w.cell? ⟨lb, 1, none⟩ = some (.int .i64 lim) := fun y => y.h.cel hlc
 clear hlc
 go_wp2_with fail
 refine Lcl.wp_region_calm (by kernel_rfl) [(true, [0, 1, 2, 3, 5, 6, 7, 8]), (false, [9])] #[0, 1, 3, 7, 15, 7, 39, 103, 231, 487, 1023, 2047] [0, 1, 2, 3, 4, 5, 6, 7, 8, 9] 3 #[true, true, true, true, false, true, true, true, true, true, false, false] (by kernel_rfl) (by kernel_rfl) (by kernel_rfl) (fun w' => Fr (fun _ => False) w4 w') (Fr.same w4).drew (fun d c a v w h => by cases d <;> exact h) ?_
 simp only [Lcl.opsOf, List.map_cons, List.map_nil, List.getElem?_toArray, List.getElem?_cons_succ, List.getElem?_cons_zero, Option.getD_some]
 refine Lcl.wpCalm_t ?_
 repeat (go_big_quiet_step (rfl))
 refine wpQuiet_nil ?_
 refine Lcl.wpCalm_f ?_
 repeat (go_big_quiet_step (rfl))
 refine wpQuiet_nil ?_
 refine Lcl.wpCalm_nil ?_
 clear y1
 have F5 := Lib.hid F4.out.drew
 have D5 := Lib.hid (D4.out.old (Fr.same w4).drew)
 have X5 := Lib.hid (show w4.drew.heap[w.heap.size]? = _ from X4.out)
 have Q5 := Lib.hid ((Fr.same w4).drew)
 have HZ := Lib.hid (ssize_walk (D5.out.lg.seg (e := x) (List.mem_append.2 (.inr (by simp)))))
 refine Lcl.wpG_one 4 rfl (by kernel_rfl) ?_
 go_wp2_with fail
 refine HZ.out.mono ?_
 rintro e w5 ⟨rfl, hw5⟩
 rw [hw5] at F5 D5 X5 Q5
 clear hw5 HZ X4 D4 F4
 go_wp2_with fail
 refine ⟨fun _ _ => Q5.out, ?_⟩
 refine Lcl.wpG_run [10, 11] _ _ _ (by kernel_rfl) ?_
 simp only [List.map_cons, List.map_nil, List.getElem?_toArray, List.getElem?_cons_succ, List.getElem?_cons_zero, Option.getD_some]
 have hlt : ¬ ((lim : Nat) : Int) ≤ (sumB x.s.l : Nat) := by omega
 go_wp2_with fail
 have FR5 := Lib.hid (F5.out.mono (S' := fun i => S i ∨ DkS db mb L i) fun i h => h.elim)
 have FO5 := Lib.hid (Foot.refl (db := db) (mb := mb) (S := S) (L := L) w w5)
 have OT5 := Lib.hid (Others.refl p L F)
 have SF5 := Lib.hid (fun (k : Nat) (h : SafeN p (segsOf (es0 ++ [x])) L F k) => h)
 have FU5 := Lib.hid (fun h : fuse = -1 => h)
 have AP5 := Lib.hid (show appS lim ev beg (segsOf (es0 ++ [x])) (baseB b En) = segsOf es0 ++ [x.s.push (baseB b En)] from by
  unfold appS
  rw [segs_concat, List.getLast?_concat]
  dsimp only
  rw [if_neg (by omega), List.dropLast_concat])
 have XE5 := Lib.hid (show x.s.end' = (En : Int) from by rw [EE.out, lgEnd_concat])
 have NS5 := Lib.hid (show ¬ S w.heap.size from fun h => by have := (D.out.lg.lt h).2; omega)
 have LA := Lib.hid (last_walk (D5.out.lg.old (Fr.same w5).drew))
 have hlv : lastV (es0 ++ [x]) = segV x := by unfold lastV; rw [List.getLast?_concat]
 rw [hlv] at LA
 unfold segV at LA
 have y0 : ∀ y : Lcl.InS (fun w' => Fr (fun _ => False) w5 w'), y.w.cell? ⟨w.heap.size, 0, none⟩ = some (.int .i64 En) := fun y => y.h.cel ((cell_of X5.out 0).trans rfl)
 have y1 : ∀ y : Lcl.InS (fun w' => Fr (fun _ => False) w5 w'), y.w.cell? ⟨w.heap.size, 1, none⟩ = some (.int .i64 b.span) := fun y => y.h.cel ((cell_of X5.out 1).trans rfl)
 have y2 : ∀ y : Lcl.InS (fun w' => Fr (fun _ => False) w5 w'), y.w.cell? ⟨w.heap.size, 2, none⟩ = some (.int .i64 b.prod) := fun y => y.h.cel ((cell_of X5.out 2).trans rfl)
 have y3 : ∀ y : Lcl.InS (fun w' => Fr (fun _ => False) w5 w'), y.w.cell? ⟨w.heap.size, 3, none⟩ = some (.int .i64 b.epoch) := fun y => y.h.cel ((cell_of X5.out 3).trans rfl)
 have y4 : ∀ y : Lcl.InS (fun w' => Fr (fun _ => False) w5 w'), y.w.cell? ⟨w.heap.size, 4, none⟩ = some (.int .i64 b.seq) := fun y => y.h.cel ((cell_of X5.out 4).trans rfl)
 have y5 : ∀ y : Lcl.InS (fun w' => Fr (fun _ => False) w5 w'), y.w.cell? ⟨w.heap.size, 5, none⟩ = some (.slice oa b.recs.length cap) := fun y => y.h.cel ((cell_of X5.out 5).trans rfl)
 clear hlv
 refine Lcl.wp_region_calm (by kernel_rfl) [(true, [0]), (false, [2])] #[0, 1, 0, 7, 15] [0, 1, 2] 3 #[true, false, true, false, false] (by kernel_rfl) (by kernel_rfl) (by kernel_rfl) (fun w' => Fr (fun _ => False) w5 w') (Fr.same w5).drew (fun d c a v w h => by cases d <;> exact h) ?_
 simp only [Lcl.opsOf, List.map_cons, List.map_nil, List.getElem?_toArray, List.getElem?_cons_succ, List.getElem?_cons_zero, Option.getD_some]
 refine Lcl.wpCalm_t ?_
 repeat (go_big_quiet_step (rfl))
 refine wpQuiet_nil ?_
 refine Lcl.wpCalm_f ?_
 repeat (go_big_quiet_step (rfl))
 refine wpQuiet_nil ?_
 refine Lcl.wpCalm_nil ?_
 clear y0 y1 y2 y3 y4 y5
 refine Lcl.wpG_one 1 rfl (by kernel_rfl) ?_
 go_wp2_with fail
 refine LA.out.mono ?_
 rintro e w6 ⟨rfl, hf⟩
 have Q6 := Lib.hid ((Fr.same w5).drew.tr hf)
 have F6 := Lib.hid (FR5.out.trans Q6.out fun i h => h.elim)
 have D6 := Lib.hid (D5.out.old Q6.out)
 have X6 := Lib.hid ((Q6.out.block _ (lt_of_heap X5.out) fun h => h).trans X5.out)
 clear hf LA
 go_wp2_with fail
 refine ⟨fun _ _ => Q6.out, ?_⟩
 have hxm : x ∈ es0 ++ [x] := List.mem_append.2 (.inr (by simp))
 have hxS : ∀ i, x.S i → S i := fun i hi => by
  obtain ⟨sv, G, hV, hSS⟩ := D6.out.lg
  exact (hSS i).2 (.inr (.inr ⟨x, hxm, hi⟩))
 have hll := D6.out.last_le hxm
 have hnm := nmS_size p x.s.base
 have hp1 := D6.out.lg.p1
 have hp2 := D6.out.lg.p2
 have hnL := D6.out.nL
 have hbw := D6.out.b2
 have HAP := Lib.hid (sappend_walk (D6.out.lg.seg hxm) D6.out.dk D6.out.ok (fun i hi => D6.out.lg.ap (hxS i hi)) (fun i hi => (D6.out.lg.lt (hxS i hi)).2) (by omega) (by omega) (by omega) D6.out.rm D6.out.file_le K (fun k hk => (HK.out k hk).2) (baseB b En) (.slice oa b.recs.length cap) (HR.out.fr F6.out fun k hk h => h.elim (HK.out k hk).1 (HK.out k hk).2) (HST.out.fr F6.out fun h => D.out.nz h rfl) (fun i hi => D6.out.nz (hi.imp (hxS i) id)) (by omega) (by omega) hbw)
 unfold batV baseB at HAP
 dsimp only at HAP
 clear hxS hnm hp1 hp2 hnL hbw hll
 refine Lcl.wpG_one 3 rfl (by kernel_rfl) ?_
 go_wp2_with fail
 refine HAP.out.mono ?_
 rintro e w7 ⟨he, hok, hno⟩
 obtain ⟨c, hcd⟩ : ∃ c, c = apCode x.s ⟨En, b.span, b.prod, b.epoch, b.seq, b.recs⟩ room used fuse := ⟨_, rfl⟩
 rw [← hcd] at he hok hno
 subst he
 have CD := Lib.hid (show c = appCode room used fuse (bsz (baseB b En)) from by
  rw [hcd]
  unfold apCode
  exact if_pos ⟨HB.out, by rw [XE5.out]; exact Int.le_refl _⟩)
 clear hcd HAP
 by_cases hc0 : c = 0
 ·subst hc0
  have hroom : used + bsz (baseB b En) ≤ room := by
   have h1 := CD.out
   unfold appCode at h1
   split at h1
   ·cases h1
   ·split at h1
    ·cases h1
    ·omega
  have hPU := D6.out.pushed (by omega) HB.out (by rw [XE5.out]; exact Int.le_refl _) hroom (hok rfl)
  obtain ⟨S1, L7, S7, F7, hd7, hot, hsf, hhas, hfo, hfr⟩ := hPU
  have hnw : ¬ (S w.heap.size ∨ DkS db mb L w.heap.size) := fun h => by
   rcases h with h | h
   ·exact absurd h NS5.out
   ·have := D.out.dk.lt h; omega
  have X7 := Lib.hid ((hfr.block w.heap.size (lt_of_heap X6.out) hnw).trans X6.out)
  have c7 : w7.cell? ⟨w.heap.size, 0, none⟩ = some (.int .i64 En) := (cell_of X7.out 0).trans rfl
  have D7 := Lib.hid hd7
  have FOo := FO5.out
  have FO67 := Lib.hid hfo
  have SZ5 := Lib.hid (show w.heap.size ≤ w5.heap.size ∧ w5.heap.size ≤ w6.heap.size ∧ w6.heap.size ≤ w7.heap.size from ⟨FR5.out.size, Q6.out.size, hfr.size⟩)
  have FO6 := Lib.hid (FOo.trans (Foot.refl (db := db) (mb := mb) (S := S) (L := L) w5 w6) SZ5.out.1 SZ5.out.2.1)
  have FO7 := Lib.hid (FO6.out.trans hfo (Nat.le_trans SZ5.out.1 SZ5.out.2.1) SZ5.out.2.2)
  have FR7 := Lib.hid (FO6.out.fr F6.out hfr)
  have OT7 := Lib.hid (OT5.out.trans hot)
  have SF7 := Lib.hid (fun (k : Nat) (h : SafeN p (segsOf (es0 ++ [x])) L F k) => hsf k (SF5.out k h))
  have SG7 := Lib.hid (show segsOf (es0 ++ [⟨x.sb, x.s.push (baseB b En), S1⟩]) = appS lim ev beg (segsOf (es0 ++ [x])) (baseB b En) from by rw [segs_concat, AP5.out])
  have HH7 := Lib.hid hhas
  clear hok hno hd7 hot hsf hhas hfo hfr hnw FOo hroom
  go_wp2_with fail
  refine ⟨fun h => absurd h (by decide), ?_⟩
  refine Lcl.wpG_run [4] _ _ _ (by kernel_rfl) ?_
  simp only [List.map_cons, List.map_nil, List.getElem?_toArray, List.getElem?_cons_succ, List.getElem?_cons_zero, Option.getD_some]
  cases sy with
  | false =>
   go_wp2_with fail
   go_ret2
   exact ⟨0, true, _, L7, S7, _, _, F7, rfl, D7.out.more (by omega) (by omega), OT7.out, SF7.out, FO7.out, FR7.out, fun _ => ⟨SG7.out, rfl⟩, fun h => (by cases h), fun _ => rfl, fun _ _ => rfl, fun h => absurd HB.out h, fun h => ⟨by rw [FU5.out h]; rfl, fun _ _ => rfl⟩, fun _ h => (by cases h)⟩
  | true =>
   have LA := Lib.hid (last_walk D7.out.lg)
   have hlv : lastV (es0 ++ [⟨x.sb, x.s.push (baseB b En), S1⟩]) = .pointer (some ⟨x.sb, 0, none⟩) := by unfold lastV; rw [List.getLast?_concat]; rfl
   rw [hlv] at LA
   have hnm := nmS_size p x.s.base
   have hp2 := D7.out.lg.p2
   clear hlv
   go_wp2_with fail
   refine LA.out.mono ?_
   rintro e w8 ⟨rfl, hf8⟩
   have hd8 := D7.out.old hf8
   have hsw := ssync_walk (hd8.lg.seg (e := ⟨x.sb, x.s.push (baseB b En), S1⟩) (List.mem_append.2 (.inr (by simp)))) hd8.dk hd8.ok (by show (nmS p x.s.base).size ≤ 40; omega)
   have HSW := Lib.hid hsw
   have D8 := Lib.hid hd8
   have c8 : w8.cell? ⟨w.heap.size, 0, none⟩ = some (.int .i64 En) := hf8.cel c7
   have X8 := Lib.hid ((hf8.block _ (lt_of_heap X7.out) fun h => h).trans X7.out)
   have FR8 := Lib.hid (FR7.out.trans hf8 fun i h => h.elim)
   have FO8 := Lib.hid (FO7.out.trans (Foot.refl (db := db) (mb := mb) (S := S7) (L := L7) w7 w8) FR7.out.size hf8.size)
   clear hf8 hd8 hsw hnm hp2 LA c7
   go_wp2_with fail
   refine HSW.out.mono ?_
   intro e w9 hpost
   obtain ⟨c2, rfl, hsy⟩ := D8.out.synced hpost
   obtain ⟨fu9, F9, hd9, hot, hsf, hls, hc2, hfu, hc7, hfr⟩ := hsy
   have hnw : ¬ (S7 w.heap.size ∨ DkS db mb L7 w.heap.size) := fun h => by
    have hlt6 := lt_of_heap X6.out
    rcases h with h | h
    ·rcases FO67.out.1 _ h with h3 | h3
     ·exact absurd h3 NS5.out
     ·omega
    ·rcases FO67.out.2 _ h with h3 | h3
     ·have := D.out.dk.lt h3; omega
     ·omega
   have c9 : w9.cell? ⟨w.heap.size, 0, none⟩ = some (.int .i64 En) := hfr.cell c8 hnw
   have D9 := Lib.hid hd9
   have FR9 := Lib.hid (FO8.out.fr FR8.out hfr)
   have FO9 := Lib.hid (FO8.out.trans (Foot.refl (db := db) (mb := mb) (S := S7) (L := L7) w8 w9) FR8.out.size hfr.size)
   have OT9 := Lib.hid (OT7.out.trans hot)
   have SF9 := Lib.hid (fun (k : Nat) (h : SafeN p (segsOf (es0 ++ [x])) L F k) => hsf k (SF7.out k h))
   have HLS := Lib.hid hls
   have HFU := Lib.hid hfu
   clear hpost hd9 hot hsf hls hfu hc7 hfr hnw c8 HSW
   rcases hc2 with rfl | rfl
   ·have HLS2 := Lib.hid (HLS.out rfl)
    have HFU2 := Lib.hid (fun h => (HFU.out h).2)
    clear HLS HFU
    go_wp2_with fail
    go_ret2
    exact ⟨0, true, _, L7, S7, _, _, F9, rfl, D9.out.more (by omega) (by omega), OT9.out, SF9.out, FO9.out, FR9.out, fun _ => ⟨SG7.out, rfl⟩, fun h => (by cases h), fun _ => rfl, fun h => (by cases h), fun h => absurd HB.out h, fun h => ⟨HFU2.out (by rw [FU5.out h]; rfl), fun _ _ => rfl⟩, fun _ _ => HLS2.out⟩
   ·have HFU2 := Lib.hid (show fuse ≠ -1 from fun h => absurd (HFU.out (by rw [FU5.out h]; rfl)).1 (by decide))
    clear HLS HFU
    go_wp2_with fail
    go_ret2
    exact ⟨7, true, _, L7, S7, _, _, F9, rfl, D9.out.more (by omega) (by omega), OT9.out, SF9.out, FO9.out, FR9.out, fun _ => ⟨SG7.out, rfl⟩, fun h => (by cases h), fun h => absurd h (by decide), fun h => (by cases h), fun h => absurd HB.out h, fun h => absurd h HFU2.out, fun h => absurd h (by decide)⟩
 ·have hf1 := hno hc0
  have D7 := Lib.hid (D6.out.old hf1)
  have FR7 := Lib.hid (F6.out.trans hf1 fun i h => h.elim)
  have FO7 := Lib.hid (FO5.out.trans (Foot.refl (db := db) (mb := mb) (S := S) (L := L) w5 w7) FR5.out.size (Nat.le_trans Q6.out.size hf1.size))
  have hq : (c == 0) = false := by simpa using hc0
  have hq2 : (c != 0) = true := by simpa using hc0
  clear hok hno hf1
  go_wp2_with fail
  refine ⟨fun h => absurd h (by decide), ?_⟩
  refine Lcl.wpG_run [4] _ _ _ (by kernel_rfl) ?_
  simp only [List.map_cons, List.map_nil, List.getElem?_toArray, List.getElem?_cons_succ, List.getElem?_cons_zero, Option.getD_some]
  go_wp2_with fail
  go_ret2
  refine ⟨c, false, _, L, S, _, _, F, by rw [if_neg hc0]; rfl, D7.out.more (by omega) (by omega), OT5.out, SF5.out, FO7.out, FR7.out, fun h => (by cases h), fun _ => ⟨rfl, rfl, rfl⟩, fun h => absurd h hc0, fun _ h => (by cases h), fun h => absurd HB.out h, fun h => ⟨FU5.out h, fun _ hr => ?_⟩, fun h => absurd h hc0⟩
  have h1 := CD.out
  rw [FU5.out h] at h1
  unfold appCode at h1
  rw [if_neg (by decide), if_neg (by omega)] at h1
  exact h1
end
end Go.Proofs.YtdlnafhhkpklmaaGreatDoor
/- Append to a log, a new segment behind others: the walk. -/
namespace Go.Proofs.YtdlnafhhkpklmaaGreatDoor
open Go.RowKit Go.Fm Go.BigFrame Go.Shelf Go.Maps
set_option linter.unusedVariables false
set_option linter.unusedSimpArgs false
set_option maxRecDepth 100000
section
variable {B : Nat} {w w' : World} {lb db mb : Nat} {p : ByteArray} {lim ev : Nat} {beg : Int} {es : List PE} {own : Bool} {L : List Row} {S : Nat → Prop} {room used fuse : Int} {F : ByteArray → ByteArray × Nat} {n : Nat}
set_option maxHeartbeats 8000000 in
theorem lapp_new {es0 : List PE} {x0 : PE} (D0 : LogD B w lb db mb p lim ev beg (es0 ++ [x0]) true L S room used fuse F n) (hn : n < 699) (hlim : lim ≤ sumB x0.s.l) (hst : StepsOK w) (K : Nat → Prop) (hK : ∀ k, K k → ¬ S k ∧ ¬ DkS db mb L k) (b : Bat) (v : Value) (hr : RecsR K w v b.recs) (En : Nat) (hE : (En : Int) = lgEnd beg (es0 ++ [x0])) (hb : BatOK (baseB b En)) (sy : Bool) :
  Calls Tryz.prog 13 #[.pointer (some ⟨lb, 0, none⟩), batV b v, .bool sy] w (LApPost B w lb db mb p lim ev beg (es0 ++ [x0]) true L S room used fuse F n (baseB b En) sy) := by
 obtain ⟨oa, cap, hv⟩ : ∃ a c, v = .slice a b.recs.length c := by obtain ⟨a, c, h, -⟩ := hr; exact ⟨a, c, h⟩
 subst hv
 have hfa := (Fr.same w).alloc (.cells (batBox b (.slice oa b.recs.length cap)) 36)
 have hle := lend_walk (D0.lg.old hfa)
 rw [← hE] at hle
 have HE := Lib.hid hle
 have D := Lib.hid D0
 have HR := Lib.hid hr
 have HST := Lib.hid hst
 have HB := Lib.hid hb
 have HK := Lib.hid hK
 have EE := Lib.hid hE
 have FA := Lib.hid hfa
 have X := Lib.hid (heap_alloc_self w (.cells (batBox b (.slice oa b.recs.length cap)) 36))
 unfold batBox at HE FA X
 unfold batV
 clear D0 hr hb hfa hE hst hK hle
 go_enter Tryz.func13, Tryz.ntmps13
 go_wp2_with fail
 refine HE.out.mono ?_
 rintro e w1 ⟨rfl, hf⟩
 have F1 := Lib.hid (FA.out.tr hf)
 have X1 := Lib.hid ((hf.block _ (by simp) fun h => h).trans X.out)
 have c0 : w1.cell? ⟨w.heap.size, 0, none⟩ = some (.int .i64 b.base) := (cell_of X1.out 0).trans rfl
 have f0 := fz_of X1.out 0
 clear hf HE FA X
 have hX2 : (w1.setCell ⟨w.heap.size, 0, none⟩ (.int .i64 En)).heap[w.heap.size]? = some (.cells #[.int .i64 En, .int .i64 b.span, .int .i64 b.prod, .int .i64 b.epoch, .int .i64 b.seq, .slice oa b.recs.length cap] 36 (0, 0)) := by
  rw [heap_setCell_self X1.out]; rfl
 have hF2 : Fr (fun _ => False) w (w1.setCell ⟨w.heap.size, 0, none⟩ (.int .i64 En)) := Fr.setCell (S := fun _ => False) (p := ⟨w.heap.size, 0, none⟩) F1.out (.inr (Nat.le_refl _)) _
 obtain ⟨w2, hw2⟩ : ∃ w2, w2 = w1.setCell ⟨w.heap.size, 0, none⟩ (.int .i64 En) := ⟨_, rfl⟩
 rw [← hw2] at hX2 hF2
 have X2 := Lib.hid hX2
 have F2 := Lib.hid hF2
 have HCK := Lib.hid (bcheck_walk K (baseB b En) (.slice oa b.recs.length cap) w2 (HR.out.old hF2))
 have d0 : w2.cell? ⟨w.heap.size, 0, none⟩ = some (.int .i64 En) := (cell_of hX2 0).trans rfl
 have c1 : w2.cell? ⟨w.heap.size, 1, none⟩ = some (.int .i64 b.span) := (cell_of hX2 1).trans rfl
 have c2 : w2.cell? ⟨w.heap.size, 2, none⟩ = some (.int .i64 b.prod) := (cell_of hX2 2).trans rfl
 have c3 : w2.cell? ⟨w.heap.size, 3, none⟩ = some (.int .i64 b.epoch) := (cell_of hX2 3).trans rfl
 have c4 : w2.cell? ⟨w.heap.size, 4, none⟩ = some (.int .i64 b.seq) := (cell_of hX2 4).trans rfl
 have c5 : w2.cell? ⟨w.heap.size, 5, none⟩ = some (.slice oa b.recs.length cap) := (cell_of hX2 5).trans rfl
 unfold batV baseB at HCK
 dsimp only at HCK
 rw [hw2] at c1 c2 c3 c4 c5 d0 HCK
 clear hX2 hF2
 go_wp2_with fail
 rw [← hw2] at HCK ⊢
 refine HCK.out.mono ?_
 rintro e w3 ⟨c, rfl, hc, hf⟩
 have hc1 : c = 0 := by
  rcases hc with ⟨h1, -⟩ | ⟨-, h1⟩
  ·exact h1
  ·exact absurd HB.out h1
 subst hc1
 clear hc
 have F3 := Lib.hid (F2.out.tr hf)
 have X3 := Lib.hid ((hf.block _ (lt_of_heap X2.out) fun h => h).trans X2.out)
 have D3 := Lib.hid (D.out.old F3.out)
 have HLA := Lib.hid (last_walk D3.out.lg)
 have hlv : lastV (es0 ++ [x0]) = segV x0 := by unfold lastV; rw [List.getLast?_concat]
 rw [hlv] at HLA
 unfold segV at HLA
 clear hlv
 have HW2 := Lib.hid hw2
 clear hf c1 c2 c3 c4 c5 d0 HCK X2 F2 hw2 HW2 c0 f0
 go_wp2_with fail
 refine HLA.out.mono ?_
 rintro e w4 ⟨rfl, hf⟩
 have F4 := Lib.hid (F3.out.tr hf)
 have D4 := Lib.hid (D3.out.old hf)
 have X4 := Lib.hid ((hf.block _ (lt_of_heap X3.out) fun h => h).trans X3.out)
 clear hf F3 D3 X3 HLA X1 F1
 have hlc : w4.cell? ⟨lb, 1, none⟩ = some (.int .i64 lim) := by
  obtain ⟨sv, G, h1, -⟩ := D4.out.lg
  exact (cell_of h1.b 1).trans rfl
 have y1 : ∀ y : Lcl.InS (fun w' => Fr (fun _ => False) w4 w'), y.w.cell? ⟨lb, 1, none⟩ = some (.int .i64 lim) := fun y => y.h.cel hlc
 clear hlc
 go_wp2_with fail
 refine Lcl.wp_region_calm (by kernel_rfl) [(true, [0, 1, 2, 3, 5, 6, 7, 8]), (false, [9])] #[0, 1, 3, 7, 15, 7, 39, 103, 231, 487, 1023, 2047] [0, 1, 2, 3, 4, 5, 6, 7, 8, 9] 3 #[true, true, true, true, false, true, true, true, true, true, false, false] (by kernel_rfl) (by kernel_rfl) (by kernel_rfl) (fun w' => Fr (fun _ => False) w4 w') (Fr.same w4).drew (fun d c a v w h => by cases d <;> exact h) ?_
 simp only [Lcl.opsOf, List.map_cons, List.map_nil, List.getElem?_toArray, List.getElem?_cons_succ, List.getElem?_cons_zero, Option.getD_some]
 refine Lcl.wpCalm_t ?_
 repeat (go_big_quiet_step (rfl))
 refine wpQuiet_nil ?_
 refine Lcl.wpCalm_f ?_
 repeat (go_big_quiet_step (rfl))
 refine wpQuiet_nil ?_
 refine Lcl.wpCalm_nil ?_
 clear y1
 have F5 := Lib.hid F4.out.drew
 have D5 := Lib.hid (D4.out.old (Fr.same w4).drew)
 have X5 := Lib.hid (show w4.drew.heap[w.heap.size]? = _ from X4.out)
 have Q5 := Lib.hid ((Fr.same w4).drew)
 have HZ := Lib.hid (ssize_walk (D5.out.lg.seg (e := x0) (List.mem_append.2 (.inr (by simp)))))
 refine Lcl.wpG_one 4 rfl (by kernel_rfl) ?_
 go_wp2_with fail
 refine HZ.out.mono ?_
 rintro e w5 ⟨rfl, hw5⟩
 rw [hw5] at F5 D5 X5 Q5
 clear hw5 HZ X4 D4 F4
 go_wp2_with fail
 refine ⟨fun _ _ => Q5.out, ?_⟩
 refine Lcl.wpG_run [10, 11] _ _ _ (by kernel_rfl) ?_
 simp only [List.map_cons, List.map_nil, List.getElem?_toArray, List.getElem?_cons_succ, List.getElem?_cons_zero, Option.getD_some]
 have hlt : ((lim : Nat) : Int) ≤ (sumB x0.s.l : Nat) := by omega
 have hls := lsync_walk D5.out.lg D5.out.dk D5.out.ok
 have HLS := Lib.hid hls
 clear hls
 go_wp2_with fail
 refine HLS.out.mono ?_
 intro e ws hpost
 unfold LSynPost at hpost
 rw [List.getLast?_concat] at hpost
 dsimp only at hpost
 obtain ⟨c2, rfl, hsy⟩ := D5.out.synced hpost
 obtain ⟨fs, Fs, hd9, hot, hsf, hlsf, hc2, hfu, hc7, hfr⟩ := hsy
 have hwlt := lt_of_heap X5.out
 have hXs := (hfr.block w.heap.size hwlt fun h => by have := (D.out.lt h).2; omega).trans X5.out
 have Ds := Lib.hid hd9
 have Xs := Lib.hid hXs
 have FRs := Lib.hid ((F5.out.mono (S' := fun i => S i ∨ DkS db mb L i) fun i h => h.elim).trans hfr fun i h => .inl h)
 have OTs := Lib.hid hot
 have SFs := Lib.hid hsf
 have HLSF := Lib.hid hlsf
 have FUs := Lib.hid (fun h : fuse = -1 => (hfu h).2)
 have HC7 := Lib.hid (fun h : fuse = -1 => (hfu h).1)
 have hl50 : 50 ≤ lim := by
  obtain ⟨sv, G, hV, -⟩ := D.out.lg
  exact hV.l1
 have NEs := Lib.hid (show ∀ y, (es0 ++ [x0]).getLast? = some y → y.s.l ≠ [] from fun y hy h0 => by
  rw [List.getLast?_concat] at hy
  injection hy with hy
  subst hy
  rw [h0] at hlim
  have h9 : sumB [] = 0 := rfl
  omega)
 clear hpost hd9 hot hsf hlsf hfu hc7 hfr hXs HLS hwlt
 rcases hc2 with rfl | rfl
 case inr =>
  go_wp2_with fail
  go_ret2
  exact ⟨7, false, _, L, S, _, _, _, rfl, Ds.out.more (by omega) (by omega), OTs.out, SFs.out, Foot.refl _ _, FRs.out, fun h => (by cases h), fun _ => ⟨rfl, rfl, rfl⟩, fun h => absurd h (by decide), fun _ h => (by cases h), fun h => absurd HB.out h, fun h => absurd (HC7.out h) (by decide), fun h => absurd h (by decide)⟩
 have LSs := Lib.hid (HLSF.out rfl)
 obtain ⟨SV, hSV⟩ : ∃ SV, ws.heap[lb]? = some (lgObj p lim ev db beg SV) := by
  obtain ⟨sv, G, hV, -⟩ := Ds.out.lg
  exact ⟨sv, hV.b⟩
 have hSV := Lib.hid hSV
 clear HLSF HC7 D5 X5 F5 Q5 hlt
 go_wp2_with fail
 have hdlb : ¬ DkS db mb L lb := by
  obtain ⟨sv, G, hV, hSS⟩ := Ds.out.lg
  exact hV.ap _ (.inl rfl)
 have hdb0 : ¬ DkS db mb L w.heap.size := fun h => by have := D.out.dk.lt h; omega
 have hcl : ws.heap[lb]? = some (lgObj p lim ev db beg SV) := hSV.out
 have z0 : ∀ y : Lcl.InS (fun w' => Fr (DkS db mb L) ws w'), y.w.cell? ⟨lb, 0, none⟩ = some (.string p) := fun y => y.h.cell ((cell_of hcl 0).trans rfl) hdlb
 have z1 : ∀ y : Lcl.InS (fun w' => Fr (DkS db mb L) ws w'), y.w.cell? ⟨lb, 1, none⟩ = some (.int .i64 lim) := fun y => y.h.cell ((cell_of hcl 1).trans rfl) hdlb
 have z2 : ∀ y : Lcl.InS (fun w' => Fr (DkS db mb L) ws w'), y.w.cell? ⟨lb, 2, none⟩ = some (.int .i64 ev) := fun y => y.h.cell ((cell_of hcl 2).trans rfl) hdlb
 have z3 : ∀ y : Lcl.InS (fun w' => Fr (DkS db mb L) ws w'), y.w.cell? ⟨lb, 3, none⟩ = some (.pointer (some ⟨db, 0, none⟩)) := fun y => y.h.cell ((cell_of hcl 3).trans rfl) hdlb
 have z5 : ∀ y : Lcl.InS (fun w' => Fr (DkS db mb L) ws w'), y.w.cell? ⟨w.heap.size, 0, none⟩ = some (.int .i64 En) := fun y => y.h.cell ((cell_of Xs.out 0).trans rfl) hdb0
 have LB := Lib.hid hdlb
 have LB0 := Lib.hid hdb0
 clear hcl hdlb hdb0
 refine Lcl.wp_region_calm (by kernel_rfl) [(true, [0, 1, 2, 4, 5, 6, 8, 11, 13, 14, 15, 16]), (false, [3, 7, 9, 12, 17])] #[0, 1, 3, 7, 0, 16, 48, 112, 0, 256, 1008, 0, 2048, 0, 8192, 24576, 57344, 122880, 262143, 524287, 1048575, 1048575, 2097151, 8388607] [0, 1, 2, 3, 4, 5, 6, 7, 8, 9, 10, 11, 12, 13, 14, 15, 16, 17] 7 #[true, true, true, true, true, true, true, true, true, true, false, true, true, true, true, true, true, true, false, false, false, false, false, false] (by kernel_rfl) (by kernel_rfl) (by kernel_rfl) (fun w' => Fr (DkS db mb L) ws w') (Fr.refl _ ws).drew (fun d c a v w h => by cases d <;> exact h) ?_
 simp only [Lcl.opsOf, List.map_cons, List.map_nil, List.getElem?_toArray, List.getElem?_cons_succ, List.getElem?_cons_zero, Option.getD_some]
 refine Lcl.wpCalm_t ?_
 repeat (go_big_quiet_step (rfl))
 refine wpQuiet_nil ?_
 refine Lcl.wpCalm_f ?_
 repeat (go_big_quiet_step (rfl))
 refine wpQuiet_nil ?_
 refine Lcl.wpCalm_nil ?_
 clear z0 z1 z2 z3 z5
 have hnw := name_walk p lim ev En (by have := HB.out.base1; show En ≤ _; unfold baseB at this; dsimp only at this; omega) ws.drew Ds.out.lg.p2
 unfold cfgV at hnw
 have HNW := Lib.hid hnw
 clear hnw
 refine Lcl.wpG_one 10 rfl (by kernel_rfl) ?_
 go_wp2_with fail
 refine HNW.out.mono ?_
 rintro e wn ⟨rfl, hfn⟩
 have Fn := Lib.hid ((Fr.same ws).drew.tr hfn)
 have FnD := Lib.hid ((Fn.out).mono (S' := DkS db mb L) fun i h => h.elim)
 clear hfn HNW
 have Dn := Lib.hid (Ds.out.old Fn.out)
 go_wp2_with fail
 refine ⟨fun _ _ => FnD.out, ?_⟩
 have hnm := nmS_size p En
 have hp1 := Ds.out.lg.p1
 have hp2 := Ds.out.lg.p2
 have hEle : En ≤ 1099511627776 := by have := HB.out.base1; unfold baseB at this; dsimp only at this; omega
 have hev : 1 ≤ ev ∧ ev ≤ 1000000 := by
  obtain ⟨sv, G, hV, hSS⟩ := Ds.out.lg
  exact ⟨hV.e1, hV.e2⟩
 have HEV := Lib.hid hev
 have HEL := Lib.hid hEle
 have HNM := Lib.hid (show 1 ≤ (nmS p En).size ∧ (nmS p En).size ≤ 40 from by omega)
 clear hnm hp1 hp2 hev hEle
 by_cases hfs : fs = 0
 ·have HOP := Lib.hid (sopen_down (hfs ▸ Dn.out.dk) (nmS p En) HNM.out.1 HNM.out.2 En ev HEL.out HEV.out.1 HEV.out.2)
  refine Lcl.wpG_one 18 rfl (by kernel_rfl) ?_
  go_wp2_with fail
  refine HOP.out.mono ?_
  rintro e wo ⟨rfl, hfo⟩
  have Fo := Lib.hid (Fn.out.tr hfo)
  have Do := Lib.hid (Dn.out.old hfo)
  clear hfo HOP
  go_wp2_with fail
  refine ⟨fun h => absurd h (by decide), ?_⟩
  refine Lcl.wpG_one 19 rfl (by kernel_rfl) ?_
  go_wp2_with fail
  refine ⟨fun h => absurd h (by decide), ?_⟩
  refine Lcl.wpG_calm (m := #[0, 1, 3, 7, 0, 16, 48, 112, 0, 256, 1008, 0, 2048, 0, 8192, 24576, 57344, 122880, 262143, 524287, 1048575, 1048575, 2097151, 8388607]) (needs := [0, 1, 2, 3, 4, 5, 6, 7, 8, 9, 10, 11, 12, 13, 14, 15, 16, 17]) (fuel := 0) (by kernel_rfl) ?hqA (Fo.out.mono fun i h => h.elim) [(true, [20, 21, 22, 23])] _ _ ?k1A ?k2A ?k3A ?k4A
  case hqA => exact fun d c a v w h => by cases d <;> exact h
  case k1A => kernel_rfl
  case k2A => rfl
  case k3A => kernel_rfl
  simp only [Lcl.opsOf, List.map_cons, List.map_nil, List.getElem?_toArray, List.getElem?_cons_succ, List.getElem?_cons_zero, Option.getD_some]
  refine Lcl.wpCalm_t ?_
  repeat (go_big_quiet_step (rfl))
  refine wpQuiet_nil ?_
  refine Lcl.wpCalm_nil ?_
  refine Lcl.wpG_run [] _ _ _ (by kernel_rfl) ?_
  simp only [List.map_cons, List.map_nil, List.getElem?_toArray, List.getElem?_cons_succ, List.getElem?_cons_zero, Option.getD_some]
  go_wp2_with fail
  go_ret2
  exact ⟨7, false, _, L, S, _, _, _, rfl, Do.out.more (by omega) (by omega), OTs.out, SFs.out, Foot.refl _ _, FRs.out.trans Fo.out fun i h => h.elim, fun h => (by cases h), fun _ => ⟨rfl, rfl, rfl⟩, fun h => absurd h (by decide), fun _ h => (by cases h), fun h => absurd HB.out h, fun h => absurd (FUs.out h) (by rw [hfs]; decide), fun h => absurd h (by decide)⟩
 ·have hund := Ds.out.under NEs.out
  have hgn := (Ds.out.fl.snew (s := ⟨En, ev, []⟩) LSs.out (last_segs NEs.out) rfl (fun a ha => by have := hund a ha; rw [← EE.out] at this; show _ < (En : Nat) ∧ _ ≤ ((En : Nat) : Int); omega) HEL.out).2
  have hb2 := Dn.out.b2
  have hb1 := Dn.out.b1
  have HOP := Lib.hid (sopen_none Dn.out.dk Dn.out.ok hfs (nmS p En) HNM.out.1 HNM.out.2 En ev HEL.out HEV.out.1 HEV.out.2 hgn [] 0 (scan_all (l := []) (e := (En : Int)) (.nil _) (by simp [sumB])) (HST.out.fr (FRs.out.trans Fn.out fun i h => h.elim) fun h => D.out.nz h rfl) (by simp) hb2 (by omega))
  clear hund hgn hb2 hb1
  refine Lcl.wpG_one 18 rfl (by kernel_rfl) ?_
  go_wp2_with fail
  refine HOP.out.mono ?_
  rintro e wo ⟨sb, So, rfl, hso, hSo, -, hdo, hfo⟩
  have hdo := hdo (by decide)
  have Do := Lib.hid (Dn.out.redk hfo hdo)
  have Fo := Lib.hid (Fn.out.mono (S' := DkS db mb L) (fun i h => h.elim) |>.trans hfo fun i h => .inl h)
  have SO := Lib.hid hso
  have SOL := Lib.hid hSo
  clear hso hSo hdo hfo HOP
  go_wp2_with fail
  refine ⟨fun h => absurd h (by decide), ?_⟩
  refine Lcl.wpG_one 19 rfl (by kernel_rfl) ?_
  go_wp2_with fail
  refine ⟨fun h => absurd h (by decide), ?_⟩
  refine Lcl.wpG_calm (m := #[0, 1, 3, 7, 0, 16, 48, 112, 0, 256, 1008, 0, 2048, 0, 8192, 24576, 57344, 122880, 262143, 524287, 1048575, 1048575, 2097151, 8388607]) (needs := [0, 1, 2, 3, 4, 5, 6, 7, 8, 9, 10, 11, 12, 13, 14, 15, 16, 17]) (fuel := 0) (by kernel_rfl) ?hqB (Fo.out) [(true, [20, 21, 22, 23])] _ _ ?k1B ?k2B ?k3B ?k4B
  case hqB => exact fun d c a v w h => by cases d <;> exact h
  case k1B => kernel_rfl
  case k2B => rfl
  case k3B => kernel_rfl
  simp only [Lcl.opsOf, List.map_cons, List.map_nil, List.getElem?_toArray, List.getElem?_cons_succ, List.getElem?_cons_zero, Option.getD_some]
  refine Lcl.wpCalm_t ?_
  repeat (go_big_quiet_step (rfl))
  refine wpQuiet_nil ?_
  refine Lcl.wpCalm_nil ?_
  refine Lcl.wpG_run [] _ _ _ (by kernel_rfl) ?_
  simp only [List.map_cons, List.map_nil, List.getElem?_toArray, List.getElem?_cons_succ, List.getElem?_cons_zero, Option.getD_some]
  have XO := Lib.hid ((Fo.out.block _ (lt_of_heap Xs.out) LB0.out).trans Xs.out)
  have hszs := lt_of_heap Xs.out
  have hszn := Fn.out.size
  have hszo := Fo.out.size
  obtain ⟨sv, G, hV, hSS⟩ := Do.out.lg
  obtain ⟨oa2, cap2, hsv, -⟩ := hV.rd
  have hown := (hV.ow rfl).1
  obtain ⟨m, hm⟩ : ∃ m, m = ((es0 ++ [x0])).length := ⟨_, rfl⟩
  obtain ⟨xs, hxs⟩ : ∃ xs, xs = (((es0 ++ [x0])).map segV) := ⟨_, rfl⟩
  rw [← hm] at hsv hown
  rw [← hxs] at hown
  subst hsv
  have HXS := Lib.hid hxs
  clear hxs
  have HM := Lib.hid hm
  clear hm
  have HV := Lib.hid hV
  have HSS := Lib.hid hSS
  have k5 : wo.cell? ⟨lb, 5, none⟩ = some (.slice oa2 m cap2) := (cell_of hV.b 5).trans rfl
  have halb : (wo.alloc (.cells #[.pointer (some ⟨sb, 0, none⟩)] 96)).heap[lb]? = _ := (heap_alloc_lt _ (lt_of_heap hV.b)).trans hV.b
  have OWN := Lib.hid (own_eq (w' := wo.alloc (.cells #[.pointer (some ⟨sb, 0, none⟩)] 96)) hown fun k hk => heap_alloc_lt _ (own_lt hown hk).2)
  have ALB := Lib.hid halb
  have hcn : (wo.alloc (.cells #[.pointer (some ⟨sb, 0, none⟩)] 96)).cell? ⟨wo.heap.size, 0, none⟩ = some (.pointer (some ⟨sb, 0, none⟩)) := cell_alloc_new _ _ _ 0
  have CN := Lib.hid hcn
  have ELn := Lib.hid Do.out.nE
  have SZS := Lib.hid (And.intro hszs (And.intro hszn hszo))
  clear hV hSS hown halb hcn hszs hszn hszo
  go_wp2_with (at_builtin; refine wpList_push_seg _ rfl (.tmp 71) (.tmp 73) rfl B (.slice oa2 m cap2) m (xs) rfl OWN.out wo.heap.size 1 rfl (some ⟨sb, 0, none⟩) CN.out ?len ?hB ?_)
  case len => have := ELn.out; have := HM.out; omega
  case hB => have := Do.out.b2; simp; omega
  intro v3 wa ho3 hg3 hb3
  obtain ⟨oa3, cap3, hv3, hoa3, hno3⟩ := own_slice ho3
  subst hv3
  have hgne : ∀ k, (Value.slice oa2 m cap2).ownBlock = some k → k ≠ lb := fun k hk => HV.out.nb k (.inl ((HV.out.ow rfl).2 k hk))
  have hlb3 : wa.heap[lb]? = some (lgObj p lim ev db beg (.slice oa2 m cap2)) := (hg3.block lb (lt_of_heap ALB.out) fun e => hgne lb e.symm rfl).trans ALB.out
  have k5' : wa.cell? ⟨lb, 5, none⟩ = some (.slice oa2 m cap2) := (cell_of hlb3 5).trans rfl
  have f5' := fz_of hlb3 5
  have hfa : Fr (fun i => i = lb ∨ (Value.slice oa2 m cap2).ownBlock = some i) wo wa := ((Fr.refl _ wo).alloc _).grown hg3 fun k hk => .inl (.inr hk)
  have hfb : Fr (fun i => i = lb ∨ (Value.slice oa2 m cap2).ownBlock = some i) wo (wa.setCell ⟨lb, 5, none⟩ (.slice oa3 (m + 1) cap3)) := hfa.setCell (p := ⟨lb, 5, none⟩) (.inl (.inl rfl)) _
  have hbb : (wa.setCell ⟨lb, 5, none⟩ (.slice oa3 (m + 1) cap3)).heap[lb]? = some (lgObj p lim ev db beg (.slice oa3 (m + 1) cap3)) := by
   rw [heap_setCell_self hlb3]; rfl
  have hne3 : (Value.slice oa3 (m + 1) cap3).ownBlock ≠ some lb := fun e => by
   rcases hb3 with h1 | h1
   ·rw [h1] at e; exact hgne lb e rfl
   ·rw [h1] at e
    injection e with e
    have := lt_of_heap ALB.out
    have h9 := lt_of_heap HV.out.b
    try simp at e
    omega
  have hob : (wa.setCell ⟨lb, 5, none⟩ (.slice oa3 (m + 1) cap3)).ownsRow B 96 1 (.slice oa3 (m + 1) cap3) (m + 1) (xs ++ [.pointer (some ⟨sb, 0, none⟩)]) :=
   own_eq ho3 fun k hk => heap_setCell_ne _ (fun e => hne3 (by rw [hk, e])) _
  have hvb : (Value.slice oa3 (m + 1) cap3).ownBlock = (Value.slice oa2 m cap2).ownBlock ∨ ∃ g, (Value.slice oa3 (m + 1) cap3).ownBlock = some g ∧ wo.heap.size ≤ g ∧ g < (wa.setCell ⟨lb, 5, none⟩ (.slice oa3 (m + 1) cap3)).heap.size := by
   rcases hb3 with h1 | h1
   ·exact .inl h1
   ·right
    refine ⟨_, h1, by simp, ?_⟩
    have h9 := (own_lt hob h1).2
    exact h9
  clear ho3 hg3 hb3 hoa3 hno3 hfa OWN CN
  go_wp2_with fail
  generalize hw5 : wa.setCell ⟨lb, 5, none⟩ (.slice oa3 (m + 1) cap3) = w5 at *
  clear hw5 k5' f5' hlb3 hne3 hgne k5
  obtain ⟨x, hx⟩ : ∃ x : PE, x = ⟨sb, ⟨En, ev, []⟩, So⟩ := ⟨_, rfl⟩
  have hx1 : x.s.base = En := by rw [hx]
  have hx2 : x.s.l = [] := by rw [hx]
  have hx3 : segV x = .pointer (some ⟨sb, 0, none⟩) := by rw [hx]; rfl
  have hnews := Do.out.newseg (x := x) (by omega) LSs.out NEs.out (by rw [hx1]; exact EE.out) hx2 (by rw [hx]; exact SO.out) (fun i hi => by
   rw [hx] at hi
   have h1 := SOL.out i hi
   have h2 := SZS.out
   have h3 := Do.out.b2
   refine ⟨by have := Ds.out.b2; omega, h1.2, fun h => ?_, fun h => ?_⟩
   ·have := (Dn.out.lg.lt h).2; omega
   ·have := Dn.out.dk.lt h; omega) (by rw [hx1]; exact HEL.out) HV.out HSS.out hfb hbb (by
   rw [List.length_append, List.length_singleton, ← HM.out, List.map_append, List.map_singleton, hx3, ← HXS.out]
   exact hob) hvb
  obtain ⟨S3, hd5, hsf, hS3, hcat, hend, -⟩ := hnews
  have h5sz := hfb.size
  have hfr5 : Fr (fun i => S i ∨ DkS db mb L i) ws w5 := (Fo.out.mono (S' := fun i => S i ∨ DkS db mb L i) fun i h => .inl (.inr h)).trans hfb fun i h => .inl (.inl (by
   rcases h with h | h
   ·exact (HSS.out i).2 (.inl h)
   ·exact (HSS.out i).2 (.inr (.inl ((HV.out.ow rfl).2 i h)))))
  have hX5 := (hfb.block w.heap.size (Nat.lt_of_lt_of_le SZS.out.1 SZS.out.2.2) (fun h => by
   have h1 : S w.heap.size := by
    rcases h with h | h
    ·exact (HSS.out _).2 (.inl h)
    ·exact (HSS.out _).2 (.inr (.inl ((HV.out.ow rfl).2 _ h)))
   have := (D.out.lg.lt h1).2
   omega)).trans XO.out
  have D5 := Lib.hid hd5
  have X5 := Lib.hid hX5
  have FR5 := Lib.hid (FRs.out.trans hfr5 fun i h => .inl h)
  have FO5 := Lib.hid (show Foot db mb w w5 S L S3 L from ⟨fun i hi => by
   have h1 := FRs.out.size
   have h2 := SZS.out
   rcases hS3 i hi with h | h | h
   ·exact .inl h
   ·rw [hx] at h
    have := SOL.out i h
    exact .inr ⟨by omega, by omega⟩
   ·exact .inr ⟨by omega, h.2⟩, fun i hi => .inl hi⟩)
  have NS5 := Lib.hid (show ¬ S3 w.heap.size from fun h => by
   have h2 := SZS.out
   rcases hS3 _ h with h | h | h
   ·have := (D.out.lg.lt h).2; omega
   ·rw [hx] at h
    have := SOL.out _ h
    omega
   ·omega)
  have SF5 := Lib.hid (fun (k : Nat) (h : SafeN p (segsOf (es0 ++ [x0])) L F k) => hsf k (SFs.out k h))
  have CT5 := Lib.hid (And.intro hcat hend)
  have XE5 := Lib.hid (show x.s.end' = (En : Int) from by rw [EE.out, ← hend, lgEnd_concat])
  have AP5 := Lib.hid (show appS lim ev beg (segsOf (es0 ++ [x0])) (baseB b En) = segsOf (es0 ++ [x0]) ++ [x.s.push (baseB b En)] from by
   unfold appS
   conv => lhs; rw [segs_concat, List.getLast?_concat]
   dsimp only
   rw [if_pos hlim]
   have h9 : x0.s.end'.toNat = En := by
    have := EE.out
    rw [lgEnd_concat] at this
    omega
   rw [h9, hx, segs_concat]
   rfl)
  clear hd5 hX5 hfr5 hsf hS3 hcat hend hx hx1 hx2 hx3 hfb hbb hob hvb h5sz
  have LA := Lib.hid (last_walk (D5.out.lg.old (Fr.same w5).drew))
  have hlv : lastV ((es0 ++ [x0]) ++ [x]) = segV x := by unfold lastV; rw [List.getLast?_concat]
  rw [hlv] at LA
  unfold segV at LA
  have y0 : ∀ y : Lcl.InS (fun w' => Fr (fun _ => False) w5 w'), y.w.cell? ⟨w.heap.size, 0, none⟩ = some (.int .i64 En) := fun y => y.h.cel ((cell_of X5.out 0).trans rfl)
  have y1 : ∀ y : Lcl.InS (fun w' => Fr (fun _ => False) w5 w'), y.w.cell? ⟨w.heap.size, 1, none⟩ = some (.int .i64 b.span) := fun y => y.h.cel ((cell_of X5.out 1).trans rfl)
  have y2 : ∀ y : Lcl.InS (fun w' => Fr (fun _ => False) w5 w'), y.w.cell? ⟨w.heap.size, 2, none⟩ = some (.int .i64 b.prod) := fun y => y.h.cel ((cell_of X5.out 2).trans rfl)
  have y3 : ∀ y : Lcl.InS (fun w' => Fr (fun _ => False) w5 w'), y.w.cell? ⟨w.heap.size, 3, none⟩ = some (.int .i64 b.epoch) := fun y => y.h.cel ((cell_of X5.out 3).trans rfl)
  have y4 : ∀ y : Lcl.InS (fun w' => Fr (fun _ => False) w5 w'), y.w.cell? ⟨w.heap.size, 4, none⟩ = some (.int .i64 b.seq) := fun y => y.h.cel ((cell_of X5.out 4).trans rfl)
  have y5 : ∀ y : Lcl.InS (fun w' => Fr (fun _ => False) w5 w'), y.w.cell? ⟨w.heap.size, 5, none⟩ = some (.slice oa b.recs.length cap) := fun y => y.h.cel ((cell_of X5.out 5).trans rfl)
  clear hlv
  refine Lcl.wp_region_calm (by kernel_rfl) [(true, [0]), (false, [2])] #[0, 1, 0, 7, 15] [0, 1, 2] 3 #[true, false, true, false, false] (by kernel_rfl) (by kernel_rfl) (by kernel_rfl) (fun w' => Fr (fun _ => False) w5 w') (Fr.same w5).drew (fun d c a v w h => by cases d <;> exact h) ?_
  simp only [Lcl.opsOf, List.map_cons, List.map_nil, List.getElem?_toArray, List.getElem?_cons_succ, List.getElem?_cons_zero, Option.getD_some]
  refine Lcl.wpCalm_t ?_
  repeat (go_big_quiet_step (rfl))
  refine wpQuiet_nil ?_
  refine Lcl.wpCalm_f ?_
  repeat (go_big_quiet_step (rfl))
  refine wpQuiet_nil ?_
  refine Lcl.wpCalm_nil ?_
  clear y0 y1 y2 y3 y4 y5
  refine Lcl.wpG_one 1 rfl (by kernel_rfl) ?_
  go_wp2_with fail
  refine LA.out.mono ?_
  rintro e w6 ⟨rfl, hf⟩
  have Q6 := Lib.hid ((Fr.same w5).drew.tr hf)
  have F6 := Lib.hid (FR5.out.trans Q6.out fun i h => h.elim)
  have D6 := Lib.hid (D5.out.old Q6.out)
  have X6 := Lib.hid ((Q6.out.block _ (lt_of_heap X5.out) fun h => h).trans X5.out)
  clear hf LA
  go_wp2_with fail
  refine ⟨fun _ _ => Q6.out, ?_⟩
  have hxm : x ∈ (es0 ++ [x0]) ++ [x] := List.mem_append.2 (.inr (by simp))
  have hxS : ∀ i, x.S i → S3 i := fun i hi => by
   obtain ⟨sv, G, hV, hSS⟩ := D6.out.lg
   exact (hSS i).2 (.inr (.inr ⟨x, hxm, hi⟩))
  have hll := D6.out.last_le hxm
  have hnm := nmS_size p x.s.base
  have hp1 := D6.out.lg.p1
  have hp2 := D6.out.lg.p2
  have hnL := D6.out.nL
  have hbw := D6.out.b2
  have HAP := Lib.hid (sappend_walk (D6.out.lg.seg hxm) D6.out.dk D6.out.ok (fun i hi => D6.out.lg.ap (hxS i hi)) (fun i hi => (D6.out.lg.lt (hxS i hi)).2) (by omega) (by omega) (by omega) D6.out.rm D6.out.file_le K (fun k hk => (HK.out k hk).2) (baseB b En) (.slice oa b.recs.length cap) (HR.out.fr F6.out fun k hk h => h.elim (HK.out k hk).1 (HK.out k hk).2) (HST.out.fr F6.out fun h => D.out.nz h rfl) (fun i hi => D6.out.nz (hi.imp (hxS i) id)) (by omega) (by omega) hbw)
  unfold batV baseB at HAP
  dsimp only at HAP
  clear hxS hnm hp1 hp2 hnL hbw hll
  refine Lcl.wpG_one 3 rfl (by kernel_rfl) ?_
  go_wp2_with fail
  refine HAP.out.mono ?_
  rintro e w7 ⟨he, hok, hno⟩
  obtain ⟨c, hcd⟩ : ∃ c, c = apCode x.s ⟨En, b.span, b.prod, b.epoch, b.seq, b.recs⟩ room used fs := ⟨_, rfl⟩
  rw [← hcd] at he hok hno
  subst he
  have CD := Lib.hid (show c = appCode room used fs (bsz (baseB b En)) from by
   rw [hcd]
   unfold apCode
   exact if_pos ⟨HB.out, by rw [XE5.out]; exact Int.le_refl _⟩)
  clear hcd HAP
  by_cases hc0 : c = 0
  ·subst hc0
   have hroom : used + bsz (baseB b En) ≤ room := by
    have h1 := CD.out
    unfold appCode at h1
    split at h1
    ·cases h1
    ·split at h1
     ·cases h1
     ·omega
   have hPU := D6.out.pushed (by omega) HB.out (by rw [XE5.out]; exact Int.le_refl _) hroom (hok rfl)
   obtain ⟨S1, L7, S7, F7, hd7, hot, hsf, hhas, hfo, hfr⟩ := hPU
   have hnw : ¬ (S3 w.heap.size ∨ DkS db mb L w.heap.size) := fun h => by
    rcases h with h | h
    ·exact absurd h NS5.out
    ·have := D.out.dk.lt h; omega
   have X7 := Lib.hid ((hfr.block w.heap.size (lt_of_heap X6.out) hnw).trans X6.out)
   have c7 : w7.cell? ⟨w.heap.size, 0, none⟩ = some (.int .i64 En) := (cell_of X7.out 0).trans rfl
   have D7 := Lib.hid hd7
   have FOo := FO5.out
   have FO67 := Lib.hid hfo
   have SZ5 := Lib.hid (show w.heap.size ≤ w5.heap.size ∧ w5.heap.size ≤ w6.heap.size ∧ w6.heap.size ≤ w7.heap.size from ⟨FR5.out.size, Q6.out.size, hfr.size⟩)
   have FO6 := Lib.hid (FOo.trans (Foot.refl (db := db) (mb := mb) (S := S3) (L := L) w5 w6) SZ5.out.1 SZ5.out.2.1)
   have FO7 := Lib.hid (FO6.out.trans hfo (Nat.le_trans SZ5.out.1 SZ5.out.2.1) SZ5.out.2.2)
   have FR7 := Lib.hid (FO6.out.fr F6.out hfr)
   have OT7 := Lib.hid (OTs.out.trans hot)
   have SF7 := Lib.hid (fun (k : Nat) (h : SafeN p (segsOf (es0 ++ [x0])) L F k) => hsf k (SF5.out k h))
   have SG7 := Lib.hid (show segsOf ((es0 ++ [x0]) ++ [⟨x.sb, x.s.push (baseB b En), S1⟩]) = appS lim ev beg (segsOf (es0 ++ [x0])) (baseB b En) from by rw [segs_concat, AP5.out])
   have HH7 := Lib.hid hhas
   clear hok hno hd7 hot hsf hhas hfo hfr hnw FOo hroom
   go_wp2_with fail
   refine ⟨fun h => absurd h (by decide), ?_⟩
   refine Lcl.wpG_run [4] _ _ _ (by kernel_rfl) ?_
   simp only [List.map_cons, List.map_nil, List.getElem?_toArray, List.getElem?_cons_succ, List.getElem?_cons_zero, Option.getD_some]
   cases sy with
   | false =>
    go_wp2_with fail
    go_ret2
    exact ⟨0, true, _, L7, S7, _, _, F7, rfl, D7.out.more (by omega) (by omega), OT7.out, SF7.out, FO7.out, FR7.out, fun _ => ⟨SG7.out, rfl⟩, fun h => (by cases h), fun _ => rfl, fun _ _ => rfl, fun h => absurd HB.out h, fun h => ⟨by rw [FUs.out h]; rfl, fun _ _ => rfl⟩, fun _ h => (by cases h)⟩
   | true =>
    have LA := Lib.hid (last_walk D7.out.lg)
    have hlv : lastV ((es0 ++ [x0]) ++ [⟨x.sb, x.s.push (baseB b En), S1⟩]) = .pointer (some ⟨x.sb, 0, none⟩) := by unfold lastV; rw [List.getLast?_concat]; rfl
    rw [hlv] at LA
    have hnm := nmS_size p x.s.base
    have hp2 := D7.out.lg.p2
    clear hlv
    go_wp2_with fail
    refine LA.out.mono ?_
    rintro e w8 ⟨rfl, hf8⟩
    have hd8 := D7.out.old hf8
    have hsw := ssync_walk (hd8.lg.seg (e := ⟨x.sb, x.s.push (baseB b En), S1⟩) (List.mem_append.2 (.inr (by simp)))) hd8.dk hd8.ok (by show (nmS p x.s.base).size ≤ 40; omega)
    have HSW := Lib.hid hsw
    have D8 := Lib.hid hd8
    have c8 : w8.cell? ⟨w.heap.size, 0, none⟩ = some (.int .i64 En) := hf8.cel c7
    have X8 := Lib.hid ((hf8.block _ (lt_of_heap X7.out) fun h => h).trans X7.out)
    have FR8 := Lib.hid (FR7.out.trans hf8 fun i h => h.elim)
    have FO8 := Lib.hid (FO7.out.trans (Foot.refl (db := db) (mb := mb) (S := S7) (L := L7) w7 w8) FR7.out.size hf8.size)
    clear hf8 hd8 hsw hnm hp2 LA c7
    go_wp2_with fail
    refine HSW.out.mono ?_
    intro e w9 hpost
    obtain ⟨c2, rfl, hsy⟩ := D8.out.synced hpost
    obtain ⟨fu9, F9, hd9, hot, hsf, hls, hc2, hfu, hc7, hfr⟩ := hsy
    have hnw : ¬ (S7 w.heap.size ∨ DkS db mb L7 w.heap.size) := fun h => by
     have hlt6 := lt_of_heap X6.out
     rcases h with h | h
     ·rcases FO67.out.1 _ h with h3 | h3
      ·exact absurd h3 NS5.out
      ·omega
     ·rcases FO67.out.2 _ h with h3 | h3
      ·have := D.out.dk.lt h3; omega
      ·omega
    have c9 : w9.cell? ⟨w.heap.size, 0, none⟩ = some (.int .i64 En) := hfr.cell c8 hnw
    have D9 := Lib.hid hd9
    have FR9 := Lib.hid (FO8.out.fr FR8.out hfr)
    have FO9 := Lib.hid (FO8.out.trans (Foot.refl (db := db) (mb := mb) (S := S7) (L := L7) w8 w9) FR8.out.size hfr.size)
    have OT9 := Lib.hid (OT7.out.trans hot)
    have SF9 := Lib.hid (fun (k : Nat) (h : SafeN p (segsOf (es0 ++ [x0])) L F k) => hsf k (SF7.out k h))
    have HLS := Lib.hid hls
    have HFU := Lib.hid hfu
    clear hpost hd9 hot hsf hls hfu hc7 hfr hnw c8 HSW
    rcases hc2 with rfl | rfl
    ·have HLS2 := Lib.hid (HLS.out rfl)
     have HFU2 := Lib.hid (fun h => (HFU.out h).2)
     clear HLS HFU
     go_wp2_with fail
     go_ret2
     exact ⟨0, true, _, L7, S7, _, _, F9, rfl, D9.out.more (by omega) (by omega), OT9.out, SF9.out, FO9.out, FR9.out, fun _ => ⟨SG7.out, rfl⟩, fun h => (by cases h), fun _ => rfl, fun h => (by cases h), fun h => absurd HB.out h, fun h => ⟨HFU2.out (by rw [FUs.out h]; rfl), fun _ _ => rfl⟩, fun _ _ => HLS2.out⟩
    ·have HFU2 := Lib.hid (show fuse ≠ -1 from fun h => absurd (HFU.out (by rw [FUs.out h]; rfl)).1 (by decide))
     clear HLS HFU
     go_wp2_with fail
     go_ret2
     exact ⟨7, true, _, L7, S7, _, _, F9, rfl, D9.out.more (by omega) (by omega), OT9.out, SF9.out, FO9.out, FR9.out, fun _ => ⟨SG7.out, rfl⟩, fun h => (by cases h), fun h => absurd h (by decide), fun h => (by cases h), fun h => absurd HB.out h, fun h => absurd h HFU2.out, fun h => absurd h (by decide)⟩
  ·have hf1 := hno hc0
   have D7 := Lib.hid (D6.out.old hf1)
   have FR7 := Lib.hid (F6.out.trans hf1 fun i h => h.elim)
   have FO7 := Lib.hid (FO5.out.trans (Foot.refl (db := db) (mb := mb) (S := S3) (L := L) w5 w7) FR5.out.size (Nat.le_trans Q6.out.size hf1.size))
   have hq : (c == 0) = false := by simpa using hc0
   have hq2 : (c != 0) = true := by simpa using hc0
   clear hok hno hf1
   go_wp2_with fail
   refine ⟨fun h => absurd h (by decide), ?_⟩
   refine Lcl.wpG_run [4] _ _ _ (by kernel_rfl) ?_
   simp only [List.map_cons, List.map_nil, List.getElem?_toArray, List.getElem?_cons_succ, List.getElem?_cons_zero, Option.getD_some]
   go_wp2_with fail
   go_ret2
   refine ⟨c, false, _, L, S3, _, _, Fs, by rw [if_neg hc0]; rfl, D7.out.more (by omega) (by omega), OTs.out, SF5.out, FO7.out, FR7.out, fun h => (by cases h), fun _ => ⟨CT5.out.1, CT5.out.2, rfl⟩, fun h => absurd h hc0, fun _ h => (by cases h), fun h => absurd HB.out h, fun h => ⟨FUs.out h, fun _ hr => ?_⟩, fun h => absurd h hc0⟩
   have h1 := CD.out
   rw [FUs.out h] at h1
   unfold appCode at h1
   rw [if_neg (by decide), if_neg (by omega)] at h1
   exact h1
end
end Go.Proofs.YtdlnafhhkpklmaaGreatDoor
/- Append to a log, its first segment: the walk. -/
namespace Go.Proofs.YtdlnafhhkpklmaaGreatDoor
open Go.RowKit Go.Fm Go.BigFrame Go.Shelf Go.Maps
set_option linter.unusedVariables false
set_option linter.unusedSimpArgs false
set_option maxRecDepth 100000
section
variable {B : Nat} {w w' : World} {lb db mb : Nat} {p : ByteArray} {lim ev : Nat} {beg : Int} {es : List PE} {own : Bool} {L : List Row} {S : Nat → Prop} {room used fuse : Int} {F : ByteArray → ByteArray × Nat} {n : Nat}
set_option maxHeartbeats 8000000 in
theorem lapp_first  (D0 : LogD B w lb db mb p lim ev beg ([] : List PE) true L S room used fuse F n) (hn : n < 699) (hst : StepsOK w) (K : Nat → Prop) (hK : ∀ k, K k → ¬ S k ∧ ¬ DkS db mb L k) (b : Bat) (v : Value) (hr : RecsR K w v b.recs) (En : Nat) (hE : (En : Int) = lgEnd beg ([] : List PE)) (hb : BatOK (baseB b En)) (sy : Bool) :
  Calls Tryz.prog 13 #[.pointer (some ⟨lb, 0, none⟩), batV b v, .bool sy] w (LApPost B w lb db mb p lim ev beg ([] : List PE) true L S room used fuse F n (baseB b En) sy) := by
 obtain ⟨oa, cap, hv⟩ : ∃ a c, v = .slice a b.recs.length c := by obtain ⟨a, c, h, -⟩ := hr; exact ⟨a, c, h⟩
 subst hv
 have hfa := (Fr.same w).alloc (.cells (batBox b (.slice oa b.recs.length cap)) 36)
 have hle := lend_walk (D0.lg.old hfa)
 rw [← hE] at hle
 have HE := Lib.hid hle
 have D := Lib.hid D0
 have HR := Lib.hid hr
 have HST := Lib.hid hst
 have HB := Lib.hid hb
 have HK := Lib.hid hK
 have EE := Lib.hid hE
 have FA := Lib.hid hfa
 have X := Lib.hid (heap_alloc_self w (.cells (batBox b (.slice oa b.recs.length cap)) 36))
 unfold batBox at HE FA X
 unfold batV
 clear D0 hr hb hfa hE hst hK hle
 go_enter Tryz.func13, Tryz.ntmps13
 go_wp2_with fail
 refine HE.out.mono ?_
 rintro e w1 ⟨rfl, hf⟩
 have F1 := Lib.hid (FA.out.tr hf)
 have X1 := Lib.hid ((hf.block _ (by simp) fun h => h).trans X.out)
 have c0 : w1.cell? ⟨w.heap.size, 0, none⟩ = some (.int .i64 b.base) := (cell_of X1.out 0).trans rfl
 have f0 := fz_of X1.out 0
 clear hf HE FA X
 have hX2 : (w1.setCell ⟨w.heap.size, 0, none⟩ (.int .i64 En)).heap[w.heap.size]? = some (.cells #[.int .i64 En, .int .i64 b.span, .int .i64 b.prod, .int .i64 b.epoch, .int .i64 b.seq, .slice oa b.recs.length cap] 36 (0, 0)) := by
  rw [heap_setCell_self X1.out]; rfl
 have hF2 : Fr (fun _ => False) w (w1.setCell ⟨w.heap.size, 0, none⟩ (.int .i64 En)) := Fr.setCell (S := fun _ => False) (p := ⟨w.heap.size, 0, none⟩) F1.out (.inr (Nat.le_refl _)) _
 obtain ⟨w2, hw2⟩ : ∃ w2, w2 = w1.setCell ⟨w.heap.size, 0, none⟩ (.int .i64 En) := ⟨_, rfl⟩
 rw [← hw2] at hX2 hF2
 have X2 := Lib.hid hX2
 have F2 := Lib.hid hF2
 have HCK := Lib.hid (bcheck_walk K (baseB b En) (.slice oa b.recs.length cap) w2 (HR.out.old hF2))
 have d0 : w2.cell? ⟨w.heap.size, 0, none⟩ = some (.int .i64 En) := (cell_of hX2 0).trans rfl
 have c1 : w2.cell? ⟨w.heap.size, 1, none⟩ = some (.int .i64 b.span) := (cell_of hX2 1).trans rfl
 have c2 : w2.cell? ⟨w.heap.size, 2, none⟩ = some (.int .i64 b.prod) := (cell_of hX2 2).trans rfl
 have c3 : w2.cell? ⟨w.heap.size, 3, none⟩ = some (.int .i64 b.epoch) := (cell_of hX2 3).trans rfl
 have c4 : w2.cell? ⟨w.heap.size, 4, none⟩ = some (.int .i64 b.seq) := (cell_of hX2 4).trans rfl
 have c5 : w2.cell? ⟨w.heap.size, 5, none⟩ = some (.slice oa b.recs.length cap) := (cell_of hX2 5).trans rfl
 unfold batV baseB at HCK
 dsimp only at HCK
 rw [hw2] at c1 c2 c3 c4 c5 d0 HCK
 clear hX2 hF2
 go_wp2_with fail
 rw [← hw2] at HCK ⊢
 refine HCK.out.mono ?_
 rintro e w3 ⟨c, rfl, hc, hf⟩
 have hc1 : c = 0 := by
  rcases hc with ⟨h1, -⟩ | ⟨-, h1⟩
  ·exact h1
  ·exact absurd HB.out h1
 subst hc1
 clear hc
 have F3 := Lib.hid (F2.out.tr hf)
 have X3 := Lib.hid ((hf.block _ (lt_of_heap X2.out) fun h => h).trans X2.out)
 have D3 := Lib.hid (D.out.old F3.out)
 have HLA := Lib.hid (last_walk D3.out.lg)
 unfold lastV at HLA
 simp only [List.getLast?_nil] at HLA
 have HW2 := Lib.hid hw2
 clear hf c1 c2 c3 c4 c5 d0 HCK X2 F2 hw2 HW2 c0 f0
 go_wp2_with fail
 refine HLA.out.mono ?_
 rintro e w4 ⟨rfl, hf⟩
 have F4 := Lib.hid (F3.out.tr hf)
 have D4 := Lib.hid (D3.out.old hf)
 have X4 := Lib.hid ((hf.block _ (lt_of_heap X3.out) fun h => h).trans X3.out)
 clear hf F3 D3 X3 HLA X1 F1
 have hls := lsync_walk (D4.out.old (Fr.same w4).drew).lg (D4.out.old (Fr.same w4).drew).dk D4.out.ok
 have HLS := Lib.hid hls
 clear hls
 go_wp2_with fail
 refine Lcl.wp_region_calm (by kernel_rfl) [(true, [0, 1, 2, 3, 5, 6, 7, 8]), (false, [9])] #[0, 1, 3, 7, 15, 7, 39, 103, 231, 487, 1023, 2047] [0, 1, 2, 3, 4, 5, 6, 7, 8, 9] 3 #[true, true, true, true, false, true, true, true, true, true, false, false] (by kernel_rfl) (by kernel_rfl) (by kernel_rfl) (fun w' => Fr (fun _ => False) w4 w') (Fr.same w4).drew (fun d c a v w h => by cases d <;> exact h) ?_
 simp only [Lcl.opsOf, List.map_cons, List.map_nil, List.getElem?_toArray, List.getElem?_cons_succ, List.getElem?_cons_zero, Option.getD_some]
 refine Lcl.wpCalm_t ?_
 repeat (go_big_quiet_step (rfl))
 refine wpQuiet_nil ?_
 refine Lcl.wpCalm_f ?_
 repeat (go_big_quiet_step (rfl))
 refine wpQuiet_nil ?_
 refine Lcl.wpCalm_nil ?_
 refine Lcl.wpG_one 4 rfl (by kernel_rfl) ?_
 go_wp2_with fail
 refine ⟨fun _ h => h, ?_⟩
 refine Lcl.wpG_run [10, 11] _ _ _ (by kernel_rfl) ?_
 simp only [List.map_cons, List.map_nil, List.getElem?_toArray, List.getElem?_cons_succ, List.getElem?_cons_zero, Option.getD_some]
 go_wp2_with fail
 refine HLS.out.mono ?_
 intro e ws hpost
 unfold LSynPost at hpost
 simp only [List.getLast?_nil] at hpost
 obtain ⟨rfl, hfs0⟩ := hpost
 have Ds := Lib.hid ((D4.out.old (Fr.same w4).drew).old hfs0)
 have hwlt := lt_of_heap X4.out
 have Xs := Lib.hid ((hfs0.block w.heap.size hwlt fun h => h).trans X4.out)
 have FRs := Lib.hid ((F4.out.drew.tr hfs0).mono (S' := fun i => S i ∨ DkS db mb L i) fun i h => h.elim)
 obtain ⟨fs, hfse⟩ : ∃ fs, fs = fuse := ⟨_, rfl⟩
 obtain ⟨Fs, hFse⟩ : ∃ Fs, Fs = F := ⟨_, rfl⟩
 rw [← hfse, ← hFse] at Ds
 have OTs := Lib.hid (show Others p L F L Fs from by rw [hFse]; exact Others.refl p L F)
 have SFs := Lib.hid (show ∀ k, SafeN p (segsOf ([] : List PE)) L F k → SafeN p (segsOf ([] : List PE)) L Fs k from by rw [hFse]; exact fun k h => h)
 have FUs := Lib.hid (fun h : fuse = -1 => show fs = -1 from by rw [hfse]; exact h)
 have NEs := Lib.hid (show ∀ y, ([] : List PE).getLast? = some y → y.s.l ≠ [] from fun y hy => by cases hy)
 have LSs := Lib.hid (show LastSafe p (segsOf ([] : List PE)) L Fs from fun s hs => by cases hs)
 obtain ⟨SV, hSV⟩ : ∃ SV, ws.heap[lb]? = some (lgObj p lim ev db beg SV) := by
  obtain ⟨sv, G, hV, -⟩ := Ds.out.lg
  exact ⟨sv, hV.b⟩
 have hSV := Lib.hid hSV
 clear hfs0 hwlt HLS D4 X4 F4 hfse hFse
 go_wp2_with fail
 have hdlb : ¬ DkS db mb L lb := by
  obtain ⟨sv, G, hV, hSS⟩ := Ds.out.lg
  exact hV.ap _ (.inl rfl)
 have hdb0 : ¬ DkS db mb L w.heap.size := fun h => by have := D.out.dk.lt h; omega
 have hcl : ws.heap[lb]? = some (lgObj p lim ev db beg SV) := hSV.out
 have z0 : ∀ y : Lcl.InS (fun w' => Fr (DkS db mb L) ws w'), y.w.cell? ⟨lb, 0, none⟩ = some (.string p) := fun y => y.h.cell ((cell_of hcl 0).trans rfl) hdlb
 have z1 : ∀ y : Lcl.InS (fun w' => Fr (DkS db mb L) ws w'), y.w.cell? ⟨lb, 1, none⟩ = some (.int .i64 lim) := fun y => y.h.cell ((cell_of hcl 1).trans rfl) hdlb
 have z2 : ∀ y : Lcl.InS (fun w' => Fr (DkS db mb L) ws w'), y.w.cell? ⟨lb, 2, none⟩ = some (.int .i64 ev) := fun y => y.h.cell ((cell_of hcl 2).trans rfl) hdlb
 have z3 : ∀ y : Lcl.InS (fun w' => Fr (DkS db mb L) ws w'), y.w.cell? ⟨lb, 3, none⟩ = some (.pointer (some ⟨db, 0, none⟩)) := fun y => y.h.cell ((cell_of hcl 3).trans rfl) hdlb
 have z5 : ∀ y : Lcl.InS (fun w' => Fr (DkS db mb L) ws w'), y.w.cell? ⟨w.heap.size, 0, none⟩ = some (.int .i64 En) := fun y => y.h.cell ((cell_of Xs.out 0).trans rfl) hdb0
 have LB := Lib.hid hdlb
 have LB0 := Lib.hid hdb0
 clear hcl hdlb hdb0
 refine Lcl.wp_region_calm (by kernel_rfl) [(true, [0, 1, 2, 4, 5, 6, 8, 11, 13, 14, 15, 16]), (false, [3, 7, 9, 12, 17])] #[0, 1, 3, 7, 0, 16, 48, 112, 0, 256, 1008, 0, 2048, 0, 8192, 24576, 57344, 122880, 262143, 524287, 1048575, 1048575, 2097151, 8388607] [0, 1, 2, 3, 4, 5, 6, 7, 8, 9, 10, 11, 12, 13, 14, 15, 16, 17] 7 #[true, true, true, true, true, true, true, true, true, true, false, true, true, true, true, true, true, true, false, false, false, false, false, false] (by kernel_rfl) (by kernel_rfl) (by kernel_rfl) (fun w' => Fr (DkS db mb L) ws w') (Fr.refl _ ws).drew (fun d c a v w h => by cases d <;> exact h) ?_
 simp only [Lcl.opsOf, List.map_cons, List.map_nil, List.getElem?_toArray, List.getElem?_cons_succ, List.getElem?_cons_zero, Option.getD_some]
 refine Lcl.wpCalm_t ?_
 repeat (go_big_quiet_step (rfl))
 refine wpQuiet_nil ?_
 refine Lcl.wpCalm_f ?_
 repeat (go_big_quiet_step (rfl))
 refine wpQuiet_nil ?_
 refine Lcl.wpCalm_nil ?_
 clear z0 z1 z2 z3 z5
 have hnw := name_walk p lim ev En (by have := HB.out.base1; show En ≤ _; unfold baseB at this; dsimp only at this; omega) ws.drew Ds.out.lg.p2
 unfold cfgV at hnw
 have HNW := Lib.hid hnw
 clear hnw
 refine Lcl.wpG_one 10 rfl (by kernel_rfl) ?_
 go_wp2_with fail
 refine HNW.out.mono ?_
 rintro e wn ⟨rfl, hfn⟩
 have Fn := Lib.hid ((Fr.same ws).drew.tr hfn)
 have FnD := Lib.hid ((Fn.out).mono (S' := DkS db mb L) fun i h => h.elim)
 clear hfn HNW
 have Dn := Lib.hid (Ds.out.old Fn.out)
 go_wp2_with fail
 refine ⟨fun _ _ => FnD.out, ?_⟩
 have hnm := nmS_size p En
 have hp1 := Ds.out.lg.p1
 have hp2 := Ds.out.lg.p2
 have hEle : En ≤ 1099511627776 := by have := HB.out.base1; unfold baseB at this; dsimp only at this; omega
 have hev : 1 ≤ ev ∧ ev ≤ 1000000 := by
  obtain ⟨sv, G, hV, hSS⟩ := Ds.out.lg
  exact ⟨hV.e1, hV.e2⟩
 have HEV := Lib.hid hev
 have HEL := Lib.hid hEle
 have HNM := Lib.hid (show 1 ≤ (nmS p En).size ∧ (nmS p En).size ≤ 40 from by omega)
 clear hnm hp1 hp2 hev hEle
 by_cases hfs : fs = 0
 ·have HOP := Lib.hid (sopen_down (hfs ▸ Dn.out.dk) (nmS p En) HNM.out.1 HNM.out.2 En ev HEL.out HEV.out.1 HEV.out.2)
  refine Lcl.wpG_one 18 rfl (by kernel_rfl) ?_
  go_wp2_with fail
  refine HOP.out.mono ?_
  rintro e wo ⟨rfl, hfo⟩
  have Fo := Lib.hid (Fn.out.tr hfo)
  have Do := Lib.hid (Dn.out.old hfo)
  clear hfo HOP
  go_wp2_with fail
  refine ⟨fun h => absurd h (by decide), ?_⟩
  refine Lcl.wpG_one 19 rfl (by kernel_rfl) ?_
  go_wp2_with fail
  refine ⟨fun h => absurd h (by decide), ?_⟩
  refine Lcl.wpG_calm (m := #[0, 1, 3, 7, 0, 16, 48, 112, 0, 256, 1008, 0, 2048, 0, 8192, 24576, 57344, 122880, 262143, 524287, 1048575, 1048575, 2097151, 8388607]) (needs := [0, 1, 2, 3, 4, 5, 6, 7, 8, 9, 10, 11, 12, 13, 14, 15, 16, 17]) (fuel := 0) (by kernel_rfl) ?hqA (Fo.out.mono fun i h => h.elim) [(true, [20, 21, 22, 23])] _ _ ?k1A ?k2A ?k3A ?k4A
  case hqA => exact fun d c a v w h => by cases d <;> exact h
  case k1A => kernel_rfl
  case k2A => rfl
  case k3A => kernel_rfl
  simp only [Lcl.opsOf, List.map_cons, List.map_nil, List.getElem?_toArray, List.getElem?_cons_succ, List.getElem?_cons_zero, Option.getD_some]
  refine Lcl.wpCalm_t ?_
  repeat (go_big_quiet_step (rfl))
  refine wpQuiet_nil ?_
  refine Lcl.wpCalm_nil ?_
  refine Lcl.wpG_run [] _ _ _ (by kernel_rfl) ?_
  simp only [List.map_cons, List.map_nil, List.getElem?_toArray, List.getElem?_cons_succ, List.getElem?_cons_zero, Option.getD_some]
  go_wp2_with fail
  go_ret2
  exact ⟨7, false, _, L, S, _, _, _, rfl, Do.out.more (by omega) (by omega), OTs.out, SFs.out, Foot.refl _ _, FRs.out.trans Fo.out fun i h => h.elim, fun h => (by cases h), fun _ => ⟨rfl, rfl, rfl⟩, fun h => absurd h (by decide), fun _ h => (by cases h), fun h => absurd HB.out h, fun h => absurd (FUs.out h) (by rw [hfs]; decide), fun h => absurd h (by decide)⟩
 ·have hund := Ds.out.under NEs.out
  have hgn := (Ds.out.fl.snew (s := ⟨En, ev, []⟩) LSs.out (last_segs NEs.out) rfl (fun a ha => by have := hund a ha; rw [← EE.out] at this; show _ < (En : Nat) ∧ _ ≤ ((En : Nat) : Int); omega) HEL.out).2
  have hb2 := Dn.out.b2
  have hb1 := Dn.out.b1
  have HOP := Lib.hid (sopen_none Dn.out.dk Dn.out.ok hfs (nmS p En) HNM.out.1 HNM.out.2 En ev HEL.out HEV.out.1 HEV.out.2 hgn [] 0 (scan_all (l := []) (e := (En : Int)) (.nil _) (by simp [sumB])) (HST.out.fr (FRs.out.trans Fn.out fun i h => h.elim) fun h => D.out.nz h rfl) (by simp) hb2 (by omega))
  clear hund hgn hb2 hb1
  refine Lcl.wpG_one 18 rfl (by kernel_rfl) ?_
  go_wp2_with fail
  refine HOP.out.mono ?_
  rintro e wo ⟨sb, So, rfl, hso, hSo, -, hdo, hfo⟩
  have hdo := hdo (by decide)
  have Do := Lib.hid (Dn.out.redk hfo hdo)
  have Fo := Lib.hid (Fn.out.mono (S' := DkS db mb L) (fun i h => h.elim) |>.trans hfo fun i h => .inl h)
  have SO := Lib.hid hso
  have SOL := Lib.hid hSo
  clear hso hSo hdo hfo HOP
  go_wp2_with fail
  refine ⟨fun h => absurd h (by decide), ?_⟩
  refine Lcl.wpG_one 19 rfl (by kernel_rfl) ?_
  go_wp2_with fail
  refine ⟨fun h => absurd h (by decide), ?_⟩
  refine Lcl.wpG_calm (m := #[0, 1, 3, 7, 0, 16, 48, 112, 0, 256, 1008, 0, 2048, 0, 8192, 24576, 57344, 122880, 262143, 524287, 1048575, 1048575, 2097151, 8388607]) (needs := [0, 1, 2, 3, 4, 5, 6, 7, 8, 9, 10, 11, 12, 13, 14, 15, 16, 17]) (fuel := 0) (by kernel_rfl) ?hqB (Fo.out) [(true, [20, 21, 22, 23])] _ _ ?k1B ?k2B ?k3B ?k4B
  case hqB => exact fun d c a v w h => by cases d <;> exact h
  case k1B => kernel_rfl
  case k2B => rfl
  case k3B => kernel_rfl
  simp only [Lcl.opsOf, List.map_cons, List.map_nil, List.getElem?_toArray, List.getElem?_cons_succ, List.getElem?_cons_zero, Option.getD_some]
  refine Lcl.wpCalm_t ?_
  repeat (go_big_quiet_step (rfl))
  refine wpQuiet_nil ?_
  refine Lcl.wpCalm_nil ?_
  refine Lcl.wpG_run [] _ _ _ (by kernel_rfl) ?_
  simp only [List.map_cons, List.map_nil, List.getElem?_toArray, List.getElem?_cons_succ, List.getElem?_cons_zero, Option.getD_some]
  have XO := Lib.hid ((Fo.out.block _ (lt_of_heap Xs.out) LB0.out).trans Xs.out)
  have hszs := lt_of_heap Xs.out
  have hszn := Fn.out.size
  have hszo := Fo.out.size
  obtain ⟨sv, G, hV, hSS⟩ := Do.out.lg
  obtain ⟨oa2, cap2, hsv, -⟩ := hV.rd
  have hown := (hV.ow rfl).1
  obtain ⟨m, hm⟩ : ∃ m, m = (([] : List PE)).length := ⟨_, rfl⟩
  obtain ⟨xs, hxs⟩ : ∃ xs, xs = ((([] : List PE)).map segV) := ⟨_, rfl⟩
  rw [← hm] at hsv hown
  rw [← hxs] at hown
  subst hsv
  have HXS := Lib.hid hxs
  clear hxs
  have HM := Lib.hid hm
  clear hm
  have HV := Lib.hid hV
  have HSS := Lib.hid hSS
  have k5 : wo.cell? ⟨lb, 5, none⟩ = some (.slice oa2 m cap2) := (cell_of hV.b 5).trans rfl
  have halb : (wo.alloc (.cells #[.pointer (some ⟨sb, 0, none⟩)] 96)).heap[lb]? = _ := (heap_alloc_lt _ (lt_of_heap hV.b)).trans hV.b
  have OWN := Lib.hid (own_eq (w' := wo.alloc (.cells #[.pointer (some ⟨sb, 0, none⟩)] 96)) hown fun k hk => heap_alloc_lt _ (own_lt hown hk).2)
  have ALB := Lib.hid halb
  have hcn : (wo.alloc (.cells #[.pointer (some ⟨sb, 0, none⟩)] 96)).cell? ⟨wo.heap.size, 0, none⟩ = some (.pointer (some ⟨sb, 0, none⟩)) := cell_alloc_new _ _ _ 0
  have CN := Lib.hid hcn
  have ELn := Lib.hid Do.out.nE
  have SZS := Lib.hid (And.intro hszs (And.intro hszn hszo))
  clear hV hSS hown halb hcn hszs hszn hszo
  go_wp2_with (at_builtin; refine wpList_push_seg _ rfl (.tmp 71) (.tmp 73) rfl B (.slice oa2 m cap2) m (xs) rfl OWN.out wo.heap.size 1 rfl (some ⟨sb, 0, none⟩) CN.out ?len ?hB ?_)
  case len => have := ELn.out; have := HM.out; omega
  case hB => have := Do.out.b2; simp; omega
  intro v3 wa ho3 hg3 hb3
  obtain ⟨oa3, cap3, hv3, hoa3, hno3⟩ := own_slice ho3
  subst hv3
  have hgne : ∀ k, (Value.slice oa2 m cap2).ownBlock = some k → k ≠ lb := fun k hk => HV.out.nb k (.inl ((HV.out.ow rfl).2 k hk))
  have hlb3 : wa.heap[lb]? = some (lgObj p lim ev db beg (.slice oa2 m cap2)) := (hg3.block lb (lt_of_heap ALB.out) fun e => hgne lb e.symm rfl).trans ALB.out
  have k5' : wa.cell? ⟨lb, 5, none⟩ = some (.slice oa2 m cap2) := (cell_of hlb3 5).trans rfl
  have f5' := fz_of hlb3 5
  have hfa : Fr (fun i => i = lb ∨ (Value.slice oa2 m cap2).ownBlock = some i) wo wa := ((Fr.refl _ wo).alloc _).grown hg3 fun k hk => .inl (.inr hk)
  have hfb : Fr (fun i => i = lb ∨ (Value.slice oa2 m cap2).ownBlock = some i) wo (wa.setCell ⟨lb, 5, none⟩ (.slice oa3 (m + 1) cap3)) := hfa.setCell (p := ⟨lb, 5, none⟩) (.inl (.inl rfl)) _
  have hbb : (wa.setCell ⟨lb, 5, none⟩ (.slice oa3 (m + 1) cap3)).heap[lb]? = some (lgObj p lim ev db beg (.slice oa3 (m + 1) cap3)) := by
   rw [heap_setCell_self hlb3]; rfl
  have hne3 : (Value.slice oa3 (m + 1) cap3).ownBlock ≠ some lb := fun e => by
   rcases hb3 with h1 | h1
   ·rw [h1] at e; exact hgne lb e rfl
   ·rw [h1] at e
    injection e with e
    have := lt_of_heap ALB.out
    have h9 := lt_of_heap HV.out.b
    try simp at e
    omega
  have hob : (wa.setCell ⟨lb, 5, none⟩ (.slice oa3 (m + 1) cap3)).ownsRow B 96 1 (.slice oa3 (m + 1) cap3) (m + 1) (xs ++ [.pointer (some ⟨sb, 0, none⟩)]) :=
   own_eq ho3 fun k hk => heap_setCell_ne _ (fun e => hne3 (by rw [hk, e])) _
  have hvb : (Value.slice oa3 (m + 1) cap3).ownBlock = (Value.slice oa2 m cap2).ownBlock ∨ ∃ g, (Value.slice oa3 (m + 1) cap3).ownBlock = some g ∧ wo.heap.size ≤ g ∧ g < (wa.setCell ⟨lb, 5, none⟩ (.slice oa3 (m + 1) cap3)).heap.size := by
   rcases hb3 with h1 | h1
   ·exact .inl h1
   ·right
    refine ⟨_, h1, by simp, ?_⟩
    have h9 := (own_lt hob h1).2
    exact h9
  clear ho3 hg3 hb3 hoa3 hno3 hfa OWN CN
  go_wp2_with fail
  generalize hw5 : wa.setCell ⟨lb, 5, none⟩ (.slice oa3 (m + 1) cap3) = w5 at *
  clear hw5 k5' f5' hlb3 hne3 hgne k5
  obtain ⟨x, hx⟩ : ∃ x : PE, x = ⟨sb, ⟨En, ev, []⟩, So⟩ := ⟨_, rfl⟩
  have hx1 : x.s.base = En := by rw [hx]
  have hx2 : x.s.l = [] := by rw [hx]
  have hx3 : segV x = .pointer (some ⟨sb, 0, none⟩) := by rw [hx]; rfl
  have hnews := Do.out.newseg (x := x) (by omega) LSs.out NEs.out (by rw [hx1]; exact EE.out) hx2 (by rw [hx]; exact SO.out) (fun i hi => by
   rw [hx] at hi
   have h1 := SOL.out i hi
   have h2 := SZS.out
   have h3 := Do.out.b2
   refine ⟨by have := Ds.out.b2; omega, h1.2, fun h => ?_, fun h => ?_⟩
   ·have := (Dn.out.lg.lt h).2; omega
   ·have := Dn.out.dk.lt h; omega) (by rw [hx1]; exact HEL.out) HV.out HSS.out hfb hbb (by
   rw [List.length_append, List.length_singleton, ← HM.out, List.map_append, List.map_singleton, hx3, ← HXS.out]
   exact hob) hvb
  obtain ⟨S3, hd5, hsf, hS3, hcat, hend, -⟩ := hnews
  have h5sz := hfb.size
  have hfr5 : Fr (fun i => S i ∨ DkS db mb L i) ws w5 := (Fo.out.mono (S' := fun i => S i ∨ DkS db mb L i) fun i h => .inl (.inr h)).trans hfb fun i h => .inl (.inl (by
   rcases h with h | h
   ·exact (HSS.out i).2 (.inl h)
   ·exact (HSS.out i).2 (.inr (.inl ((HV.out.ow rfl).2 i h)))))
  have hX5 := (hfb.block w.heap.size (Nat.lt_of_lt_of_le SZS.out.1 SZS.out.2.2) (fun h => by
   have h1 : S w.heap.size := by
    rcases h with h | h
    ·exact (HSS.out _).2 (.inl h)
    ·exact (HSS.out _).2 (.inr (.inl ((HV.out.ow rfl).2 _ h)))
   have := (D.out.lg.lt h1).2
   omega)).trans XO.out
  have D5 := Lib.hid hd5
  have X5 := Lib.hid hX5
  have FR5 := Lib.hid (FRs.out.trans hfr5 fun i h => .inl h)
  have FO5 := Lib.hid (show Foot db mb w w5 S L S3 L from ⟨fun i hi => by
   have h1 := FRs.out.size
   have h2 := SZS.out
   rcases hS3 i hi with h | h | h
   ·exact .inl h
   ·rw [hx] at h
    have := SOL.out i h
    exact .inr ⟨by omega, by omega⟩
   ·exact .inr ⟨by omega, h.2⟩, fun i hi => .inl hi⟩)
  have NS5 := Lib.hid (show ¬ S3 w.heap.size from fun h => by
   have h2 := SZS.out
   rcases hS3 _ h with h | h | h
   ·have := (D.out.lg.lt h).2; omega
   ·rw [hx] at h
    have := SOL.out _ h
    omega
   ·omega)
  have SF5 := Lib.hid (fun (k : Nat) (h : SafeN p (segsOf ([] : List PE)) L F k) => hsf k (SFs.out k h))
  have CT5 := Lib.hid (And.intro hcat hend)
  have XE5 := Lib.hid (show x.s.end' = (En : Int) from by rw [EE.out, ← hend, lgEnd_concat])
  have AP5 := Lib.hid (show appS lim ev beg (segsOf ([] : List PE)) (baseB b En) = segsOf ([] : List PE) ++ [x.s.push (baseB b En)] from by
   have h9 : beg.toNat = En := by
    have := EE.out
    unfold lgEnd at this
    simp at this
    omega
   rw [hx]
   unfold appS segsOf
   simp only [List.map_nil, List.getLast?_nil, h9, List.nil_append]
   rfl)
  clear hd5 hX5 hfr5 hsf hS3 hcat hend hx hx1 hx2 hx3 hfb hbb hob hvb h5sz
  have LA := Lib.hid (last_walk (D5.out.lg.old (Fr.same w5).drew))
  have hlv : lastV (([] : List PE) ++ [x]) = segV x := by unfold lastV; rw [List.getLast?_concat]
  rw [hlv] at LA
  unfold segV at LA
  have y0 : ∀ y : Lcl.InS (fun w' => Fr (fun _ => False) w5 w'), y.w.cell? ⟨w.heap.size, 0, none⟩ = some (.int .i64 En) := fun y => y.h.cel ((cell_of X5.out 0).trans rfl)
  have y1 : ∀ y : Lcl.InS (fun w' => Fr (fun _ => False) w5 w'), y.w.cell? ⟨w.heap.size, 1, none⟩ = some (.int .i64 b.span) := fun y => y.h.cel ((cell_of X5.out 1).trans rfl)
  have y2 : ∀ y : Lcl.InS (fun w' => Fr (fun _ => False) w5 w'), y.w.cell? ⟨w.heap.size, 2, none⟩ = some (.int .i64 b.prod) := fun y => y.h.cel ((cell_of X5.out 2).trans rfl)
  have y3 : ∀ y : Lcl.InS (fun w' => Fr (fun _ => False) w5 w'), y.w.cell? ⟨w.heap.size, 3, none⟩ = some (.int .i64 b.epoch) := fun y => y.h.cel ((cell_of X5.out 3).trans rfl)
  have y4 : ∀ y : Lcl.InS (fun w' => Fr (fun _ => False) w5 w'), y.w.cell? ⟨w.heap.size, 4, none⟩ = some (.int .i64 b.seq) := fun y => y.h.cel ((cell_of X5.out 4).trans rfl)
  have y5 : ∀ y : Lcl.InS (fun w' => Fr (fun _ => False) w5 w'), y.w.cell? ⟨w.heap.size, 5, none⟩ = some (.slice oa b.recs.length cap) := fun y => y.h.cel ((cell_of X5.out 5).trans rfl)
  clear hlv
  refine Lcl.wp_region_calm (by kernel_rfl) [(true, [0]), (false, [2])] #[0, 1, 0, 7, 15] [0, 1, 2] 3 #[true, false, true, false, false] (by kernel_rfl) (by kernel_rfl) (by kernel_rfl) (fun w' => Fr (fun _ => False) w5 w') (Fr.same w5).drew (fun d c a v w h => by cases d <;> exact h) ?_
  simp only [Lcl.opsOf, List.map_cons, List.map_nil, List.getElem?_toArray, List.getElem?_cons_succ, List.getElem?_cons_zero, Option.getD_some]
  refine Lcl.wpCalm_t ?_
  repeat (go_big_quiet_step (rfl))
  refine wpQuiet_nil ?_
  refine Lcl.wpCalm_f ?_
  repeat (go_big_quiet_step (rfl))
  refine wpQuiet_nil ?_
  refine Lcl.wpCalm_nil ?_
  clear y0 y1 y2 y3 y4 y5
  refine Lcl.wpG_one 1 rfl (by kernel_rfl) ?_
  go_wp2_with fail
  refine LA.out.mono ?_
  rintro e w6 ⟨rfl, hf⟩
  have Q6 := Lib.hid ((Fr.same w5).drew.tr hf)
  have F6 := Lib.hid (FR5.out.trans Q6.out fun i h => h.elim)
  have D6 := Lib.hid (D5.out.old Q6.out)
  have X6 := Lib.hid ((Q6.out.block _ (lt_of_heap X5.out) fun h => h).trans X5.out)
  clear hf LA
  go_wp2_with fail
  refine ⟨fun _ _ => Q6.out, ?_⟩
  have hxm : x ∈ ([] : List PE) ++ [x] := List.mem_append.2 (.inr (by simp))
  have hxS : ∀ i, x.S i → S3 i := fun i hi => by
   obtain ⟨sv, G, hV, hSS⟩ := D6.out.lg
   exact (hSS i).2 (.inr (.inr ⟨x, hxm, hi⟩))
  have hll := D6.out.last_le hxm
  have hnm := nmS_size p x.s.base
  have hp1 := D6.out.lg.p1
  have hp2 := D6.out.lg.p2
  have hnL := D6.out.nL
  have hbw := D6.out.b2
  have HAP := Lib.hid (sappend_walk (D6.out.lg.seg hxm) D6.out.dk D6.out.ok (fun i hi => D6.out.lg.ap (hxS i hi)) (fun i hi => (D6.out.lg.lt (hxS i hi)).2) (by omega) (by omega) (by omega) D6.out.rm D6.out.file_le K (fun k hk => (HK.out k hk).2) (baseB b En) (.slice oa b.recs.length cap) (HR.out.fr F6.out fun k hk h => h.elim (HK.out k hk).1 (HK.out k hk).2) (HST.out.fr F6.out fun h => D.out.nz h rfl) (fun i hi => D6.out.nz (hi.imp (hxS i) id)) (by omega) (by omega) hbw)
  unfold batV baseB at HAP
  dsimp only at HAP
  clear hxS hnm hp1 hp2 hnL hbw hll
  refine Lcl.wpG_one 3 rfl (by kernel_rfl) ?_
  go_wp2_with fail
  refine HAP.out.mono ?_
  rintro e w7 ⟨he, hok, hno⟩
  obtain ⟨c, hcd⟩ : ∃ c, c = apCode x.s ⟨En, b.span, b.prod, b.epoch, b.seq, b.recs⟩ room used fs := ⟨_, rfl⟩
  rw [← hcd] at he hok hno
  subst he
  have CD := Lib.hid (show c = appCode room used fs (bsz (baseB b En)) from by
   rw [hcd]
   unfold apCode
   exact if_pos ⟨HB.out, by rw [XE5.out]; exact Int.le_refl _⟩)
  clear hcd HAP
  by_cases hc0 : c = 0
  ·subst hc0
   have hroom : used + bsz (baseB b En) ≤ room := by
    have h1 := CD.out
    unfold appCode at h1
    split at h1
    ·cases h1
    ·split at h1
     ·cases h1
     ·omega
   have hPU := D6.out.pushed (by omega) HB.out (by rw [XE5.out]; exact Int.le_refl _) hroom (hok rfl)
   obtain ⟨S1, L7, S7, F7, hd7, hot, hsf, hhas, hfo, hfr⟩ := hPU
   have hnw : ¬ (S3 w.heap.size ∨ DkS db mb L w.heap.size) := fun h => by
    rcases h with h | h
    ·exact absurd h NS5.out
    ·have := D.out.dk.lt h; omega
   have X7 := Lib.hid ((hfr.block w.heap.size (lt_of_heap X6.out) hnw).trans X6.out)
   have c7 : w7.cell? ⟨w.heap.size, 0, none⟩ = some (.int .i64 En) := (cell_of X7.out 0).trans rfl
   have D7 := Lib.hid hd7
   have FOo := FO5.out
   have FO67 := Lib.hid hfo
   have SZ5 := Lib.hid (show w.heap.size ≤ w5.heap.size ∧ w5.heap.size ≤ w6.heap.size ∧ w6.heap.size ≤ w7.heap.size from ⟨FR5.out.size, Q6.out.size, hfr.size⟩)
   have FO6 := Lib.hid (FOo.trans (Foot.refl (db := db) (mb := mb) (S := S3) (L := L) w5 w6) SZ5.out.1 SZ5.out.2.1)
   have FO7 := Lib.hid (FO6.out.trans hfo (Nat.le_trans SZ5.out.1 SZ5.out.2.1) SZ5.out.2.2)
   have FR7 := Lib.hid (FO6.out.fr F6.out hfr)
   have OT7 := Lib.hid (OTs.out.trans hot)
   have SF7 := Lib.hid (fun (k : Nat) (h : SafeN p (segsOf ([] : List PE)) L F k) => hsf k (SF5.out k h))
   have SG7 := Lib.hid (show segsOf (([] : List PE) ++ [⟨x.sb, x.s.push (baseB b En), S1⟩]) = appS lim ev beg (segsOf ([] : List PE)) (baseB b En) from by rw [segs_concat, AP5.out])
   have HH7 := Lib.hid hhas
   clear hok hno hd7 hot hsf hhas hfo hfr hnw FOo hroom
   go_wp2_with fail
   refine ⟨fun h => absurd h (by decide), ?_⟩
   refine Lcl.wpG_run [4] _ _ _ (by kernel_rfl) ?_
   simp only [List.map_cons, List.map_nil, List.getElem?_toArray, List.getElem?_cons_succ, List.getElem?_cons_zero, Option.getD_some]
   cases sy with
   | false =>
    go_wp2_with fail
    go_ret2
    exact ⟨0, true, _, L7, S7, _, _, F7, rfl, D7.out.more (by omega) (by omega), OT7.out, SF7.out, FO7.out, FR7.out, fun _ => ⟨SG7.out, rfl⟩, fun h => (by cases h), fun _ => rfl, fun _ _ => rfl, fun h => absurd HB.out h, fun h => ⟨by rw [FUs.out h]; rfl, fun _ _ => rfl⟩, fun _ h => (by cases h)⟩
   | true =>
    have LA := Lib.hid (last_walk D7.out.lg)
    have hlv : lastV (([] : List PE) ++ [⟨x.sb, x.s.push (baseB b En), S1⟩]) = .pointer (some ⟨x.sb, 0, none⟩) := by unfold lastV; rw [List.getLast?_concat]; rfl
    rw [hlv] at LA
    have hnm := nmS_size p x.s.base
    have hp2 := D7.out.lg.p2
    clear hlv
    go_wp2_with fail
    refine LA.out.mono ?_
    rintro e w8 ⟨rfl, hf8⟩
    have hd8 := D7.out.old hf8
    have hsw := ssync_walk (hd8.lg.seg (e := ⟨x.sb, x.s.push (baseB b En), S1⟩) (List.mem_append.2 (.inr (by simp)))) hd8.dk hd8.ok (by show (nmS p x.s.base).size ≤ 40; omega)
    have HSW := Lib.hid hsw
    have D8 := Lib.hid hd8
    have c8 : w8.cell? ⟨w.heap.size, 0, none⟩ = some (.int .i64 En) := hf8.cel c7
    have X8 := Lib.hid ((hf8.block _ (lt_of_heap X7.out) fun h => h).trans X7.out)
    have FR8 := Lib.hid (FR7.out.trans hf8 fun i h => h.elim)
    have FO8 := Lib.hid (FO7.out.trans (Foot.refl (db := db) (mb := mb) (S := S7) (L := L7) w7 w8) FR7.out.size hf8.size)
    clear hf8 hd8 hsw hnm hp2 LA c7
    go_wp2_with fail
    refine HSW.out.mono ?_
    intro e w9 hpost
    obtain ⟨c2, rfl, hsy⟩ := D8.out.synced hpost
    obtain ⟨fu9, F9, hd9, hot, hsf, hls, hc2, hfu, hc7, hfr⟩ := hsy
    have hnw : ¬ (S7 w.heap.size ∨ DkS db mb L7 w.heap.size) := fun h => by
     have hlt6 := lt_of_heap X6.out
     rcases h with h | h
     ·rcases FO67.out.1 _ h with h3 | h3
      ·exact absurd h3 NS5.out
      ·omega
     ·rcases FO67.out.2 _ h with h3 | h3
      ·have := D.out.dk.lt h3; omega
      ·omega
    have c9 : w9.cell? ⟨w.heap.size, 0, none⟩ = some (.int .i64 En) := hfr.cell c8 hnw
    have D9 := Lib.hid hd9
    have FR9 := Lib.hid (FO8.out.fr FR8.out hfr)
    have FO9 := Lib.hid (FO8.out.trans (Foot.refl (db := db) (mb := mb) (S := S7) (L := L7) w8 w9) FR8.out.size hfr.size)
    have OT9 := Lib.hid (OT7.out.trans hot)
    have SF9 := Lib.hid (fun (k : Nat) (h : SafeN p (segsOf ([] : List PE)) L F k) => hsf k (SF7.out k h))
    have HLS := Lib.hid hls
    have HFU := Lib.hid hfu
    clear hpost hd9 hot hsf hls hfu hc7 hfr hnw c8 HSW
    rcases hc2 with rfl | rfl
    ·have HLS2 := Lib.hid (HLS.out rfl)
     have HFU2 := Lib.hid (fun h => (HFU.out h).2)
     clear HLS HFU
     go_wp2_with fail
     go_ret2
     exact ⟨0, true, _, L7, S7, _, _, F9, rfl, D9.out.more (by omega) (by omega), OT9.out, SF9.out, FO9.out, FR9.out, fun _ => ⟨SG7.out, rfl⟩, fun h => (by cases h), fun _ => rfl, fun h => (by cases h), fun h => absurd HB.out h, fun h => ⟨HFU2.out (by rw [FUs.out h]; rfl), fun _ _ => rfl⟩, fun _ _ => HLS2.out⟩
    ·have HFU2 := Lib.hid (show fuse ≠ -1 from fun h => absurd (HFU.out (by rw [FUs.out h]; rfl)).1 (by decide))
     clear HLS HFU
     go_wp2_with fail
     go_ret2
     exact ⟨7, true, _, L7, S7, _, _, F9, rfl, D9.out.more (by omega) (by omega), OT9.out, SF9.out, FO9.out, FR9.out, fun _ => ⟨SG7.out, rfl⟩, fun h => (by cases h), fun h => absurd h (by decide), fun h => (by cases h), fun h => absurd HB.out h, fun h => absurd h HFU2.out, fun h => absurd h (by decide)⟩
  ·have hf1 := hno hc0
   have D7 := Lib.hid (D6.out.old hf1)
   have FR7 := Lib.hid (F6.out.trans hf1 fun i h => h.elim)
   have FO7 := Lib.hid (FO5.out.trans (Foot.refl (db := db) (mb := mb) (S := S3) (L := L) w5 w7) FR5.out.size (Nat.le_trans Q6.out.size hf1.size))
   have hq : (c == 0) = false := by simpa using hc0
   have hq2 : (c != 0) = true := by simpa using hc0
   clear hok hno hf1
   go_wp2_with fail
   refine ⟨fun h => absurd h (by decide), ?_⟩
   refine Lcl.wpG_run [4] _ _ _ (by kernel_rfl) ?_
   simp only [List.map_cons, List.map_nil, List.getElem?_toArray, List.getElem?_cons_succ, List.getElem?_cons_zero, Option.getD_some]
   go_wp2_with fail
   go_ret2
   refine ⟨c, false, _, L, S3, _, _, Fs, by rw [if_neg hc0]; rfl, D7.out.more (by omega) (by omega), OTs.out, SF5.out, FO7.out, FR7.out, fun h => (by cases h), fun _ => ⟨CT5.out.1, CT5.out.2, rfl⟩, fun h => absurd h hc0, fun _ h => (by cases h), fun h => absurd HB.out h, fun h => ⟨FUs.out h, fun _ hr => ?_⟩, fun h => absurd h hc0⟩
   have h1 := CD.out
   rw [FUs.out h] at h1
   unfold appCode at h1
   rw [if_neg (by decide), if_neg (by omega)] at h1
   exact h1
end
end Go.Proofs.YtdlnafhhkpklmaaGreatDoor
/- Append to a log: all cases. -/
namespace Go.Proofs.YtdlnafhhkpklmaaGreatDoor
open Go.RowKit Go.Fm Go.BigFrame Go.Shelf Go.Maps
set_option linter.unusedVariables false
set_option linter.unusedSimpArgs false
set_option maxRecDepth 100000
section
variable {B : Nat} {w w' : World} {lb db mb : Nat} {p : ByteArray} {lim ev : Nat} {beg : Int} {es : List PE} {own : Bool} {L : List Row} {S : Nat → Prop} {room used fuse : Int} {F : ByteArray → ByteArray × Nat} {n : Nat}
theorem lapp (D : LogD B w lb db mb p lim ev beg es true L S room used fuse F n) (hn : n < 699) (hst : StepsOK w) (K : Nat → Prop) (hK : ∀ k, K k → ¬ S k ∧ ¬ DkS db mb L k) (b : Bat) (v : Value) (hr : RecsR K w v b.recs) (sy : Bool) :
  Calls Tryz.prog 13 #[.pointer (some ⟨lb, 0, none⟩), batV b v, .bool sy] w (LApPost B w lb db mb p lim ev beg es true L S room used fuse F n (baseB b (lgEnd beg es)) sy) := by
 by_cases hb : BatOK (baseB b (lgEnd beg es))
 ·obtain ⟨En, hE⟩ : ∃ En : Nat, (En : Int) = lgEnd beg es := ⟨(lgEnd beg es).toNat, Int.toNat_of_nonneg hb.base0⟩
  rw [← hE] at hb ⊢
  rcases List.eq_nil_or_concat es with rfl | ⟨es0, x, rfl⟩
  ·exact lapp_first D hn hst K hK b v hr En hE hb sy
  ·rw [List.concat_eq_append] at *
   rcases Nat.lt_or_ge (sumB x.s.l) lim with h | h
   ·exact lapp_old D hn h hst K hK b v hr En hE hb sy
   ·exact lapp_new D hn h hst K hK b v hr En hE hb sy
 ·exact lapp_bad D hn K b v hr hb sy
end
end Go.Proofs.YtdlnafhhkpklmaaGreatDoor
