/- Put and Text of varint: the walks. -/
import Derived.Test.YtfdhofabgdkkkaaGreatDoorQ5
import Derived.WalkMore
import Derived.ScopeJumps
import Derived.Laws.BitsAllLaws
import Derived.Laws.Bits64
namespace Go.Proofs.YtfdhofabgdkkkaaGreatDoor
open Go.RowKit Go.Fm Go.BigFrame
set_option linter.unusedVariables false
set_option linter.unusedSimpArgs false
theorem xor_ones (x : Nat) (h : x < 18446744073709551616) : x ^^^ 18446744073709551615 = 18446744073709551615 - x := by
 have h2 : x < 2 ^ 64 := h
 have e : (18446744073709551615 : Nat) - x = 2 ^ 64 - (x + 1) := by omega
 have e2 : (18446744073709551615 : Nat) = 2 ^ 64 - 1 := by omega
 rw [e]
 apply Nat.eq_of_testBit_eq
 intro i
 rw [Nat.testBit_xor, Nat.testBit_two_pow_sub_succ h2, e2, Nat.testBit_two_pow_sub_one]
 by_cases hi : i < 64
 ·simp [hi]
 ·simp [hi]
  exact Nat.testBit_lt_two_pow (Nat.lt_of_lt_of_le h2 (Nat.pow_le_pow_right (by omega) (by omega)))
theorem zz_neg (n : Int) (h0 : n < 0) (h1 : -9223372036854775808 ≤ n) : bits .xor .u64 (IntKind.u64.wrap (IntKind.u64.wrap n * 2)) (IntKind.u64.wrap (n / 9223372036854775808)) = (zig n : Int) := by
 obtain ⟨x, hx⟩ : ∃ x : Nat, IntKind.u64.wrap (IntKind.u64.wrap n * 2) = (x : Int) ∧ x < 18446744073709551616 ∧ (x : Int) = 2 * n + 18446744073709551616 := by
  refine ⟨(2 * n + 18446744073709551616).toNat, ?_, by omega, by omega⟩
  simp [IntKind.wrap, IntKind.bits, IntKind.signed]; omega
 obtain ⟨hx1, hx2, hx3⟩ := hx
 have hy : IntKind.u64.wrap (n / 9223372036854775808) = ((18446744073709551615 : Nat) : Int) := by
  simp [IntKind.wrap, IntKind.bits, IntKind.signed]; omega
 rw [hx1, hy, u64_xor_nat _ _ hx2 (by omega), xor_ones x hx2]
 unfold zig
 rw [if_pos h0]
 omega
theorem zz_pos (n : Int) (h0 : 0 ≤ n) (h1 : n ≤ 9223372036854775807) : bits .xor .u64 (n * 2) (n / 9223372036854775808) = (zig n : Int) := by
 have e1 : n * 2 = ((2 * n.toNat : Nat) : Int) := by omega
 have e2 : n / 9223372036854775808 = ((0 : Nat) : Int) := by omega
 rw [e1, e2, u64_xor_nat _ _ (by omega) (by omega), Nat.xor_zero]
 unfold zig
 rw [if_neg (by omega)]
set_option maxRecDepth 100000 in
theorem or128 (m : Nat) : bits .or .u8 ((m : Int) % 256) 128 = (m : Int) % 128 + 128 := by
 have e1 : (m : Int) % 256 = ((m % 256 : Nat) : Int) := by simp
 rw [e1, show (128 : Int) = ((128 : Nat) : Int) from rfl, u8_or_nat _ _ (by omega) (by omega)]
 have : m % 256 ||| 128 = m % 128 + 128 := by
  have h : ∀ x : Nat, x < 256 → x ||| 128 = x % 128 + 128 := by decide
  rw [h _ (by omega)]
  omega
 rw [this]
 omega
/-- Between two digits. -/
structure PutMid (n : Int) (w : World) (m : Nat) (ds : List UInt8) (b : Value) (wr : World) : Prop where
 hm : m * 128 ^ ds.length < 18446744073709551616
 hp : putL (zig n) = ds ++ putL m
 o : wr.ownsRow w.heap.size 5 1 b ds.length (ds.map byteVal)
 f : Fr (fun _ => False) w wr
theorem PutMid.start (n : Int) (w : World) (hn : (Lit.int .i64 n).wf = true) : PutMid n w (zig n) [] (.slice none 0 0) w :=
 ⟨by have := zig_lt hn; simpa using this, by simp, World.ownsRow_nil _ _ _ _, Fr.same _⟩
set_option maxRecDepth 100000 in
set_option maxHeartbeats 8000000 in
theorem put_walk (n : Int) (w : World) (hn : (Lit.int .i64 n).wf = true) :
  Calls Tryz.prog 185 #[.int .i64 n] w fun e w' => e = .returned (.string (putS n)) ∧ Fr (fun _ => False) w w' := by
 obtain ⟨i, hi, hz, h1, h2⟩ := info_parts info5
 have hb := hn
 simp [Lit.wf, IntKind.min, IntKind.max, IntKind.signed, IntKind.bits] at hb
 obtain ⟨hb1, hb2⟩ := hb
 rcases Int.lt_or_le n 0 with h0 | h0
 ·go_enter Tryz.func185, Tryz.ntmps185
  go_wp2_with fail
  refine wp_scope_jumps 0 (fun a' w' => ∃ (m : Nat) (ds : List UInt8) (b u5 u6 u7 u8 u9 u10 u11 u12 u13 u14 u15 u16 u17 u18 u19 u20 u21 u22 u23 u24 u25 u26 u27 : Value), a' = { tmps := #[.int .i64 n, undef, .string ⟨#[]⟩, .int .u64 m, b, u5, u6, u7, u8, u9, u10, u11, u12, u13, u14, u15, u16, u17, u18, u19, u20, u21, u22, u23, u24, u25, u26, u27], defers := [] } ∧ PutMid n w m ds b w') (fun a' _ => (intOf (a'.tmps.getD 3 undef)).toNat) rfl ?_ ?_
  ·go_wp2_with fail
   rw [zz_neg n h0 hb1]
   have hmid := PutMid.start n w hn
   obtain ⟨m, hzm⟩ : ∃ m, m = zig n := ⟨_, rfl⟩
   obtain ⟨ds, hds⟩ : ∃ ds : List UInt8, ds = [] := ⟨_, rfl⟩
   rw [← hzm, ← hds] at hmid
   rw [← hzm]
   have hb0 : (Value.slice none 0 0) = .slice none ds.length 0 := by rw [hds]; rfl
   rw [hb0] at hmid ⊢
   obtain ⟨bo, hbo⟩ : ∃ bo : Option Addr, bo = none := ⟨_, rfl⟩
   obtain ⟨bc, hbc⟩ : ∃ bc : Nat, bc = 0 := ⟨_, rfl⟩
   rw [← hbo, ← hbc] at hmid ⊢
   have HM := Lib.hid hmid.hm
   have HP := Lib.hid hmid.hp
   have O := Lib.hid hmid.o
   have F := Lib.hid hmid.f
   clear hmid hzm hds hb0 hbo hbc hb1 hb2 h0
   go_step3
   have hd : ds.length ≤ 9 ∨ m = 0 := by
    rcases Nat.eq_zero_or_pos m with h | h
    ·exact .inr h
    ·refine .inl ?_
     have hm := HM.out
     have h3 : 128 ^ ds.length ≤ m * 128 ^ ds.length := Nat.le_mul_of_pos_left _ h
     have h4 : 128 ^ ds.length < 128 ^ 10 := by omega
     have := (Nat.pow_lt_pow_iff_right (show 1 < 128 by omega)).1 h4
     omega
   have hd9 : 128 ≤ m → ds.length ≤ 8 := fun h => by
    have hm := HM.out
    have h3 : 128 * 128 ^ ds.length ≤ m * 128 ^ ds.length := Nat.mul_le_mul_right _ h
    have h4 : 128 ^ (ds.length + 1) < 128 ^ 10 := by rw [Nat.pow_succ, Nat.mul_comm]; omega
    have := (Nat.pow_lt_pow_iff_right (show 1 < 128 by omega)).1 h4
    omega
   have hm64 : m < 18446744073709551616 := by
    have hm := HM.out
    have : m * 1 ≤ m * 128 ^ ds.length := Nat.mul_le_mul_left _ (Nat.pow_pos (by omega))
    omega
   rcases Nat.lt_or_ge m 128 with hlt | hge
   ·have hd10 : ds.length ≤ 9 := by
     rcases hd with h | h
     ·exact h
     ·have h3 := putL_len 9 (zig n) (by have := zig_lt hn; omega)
      have h4 := congrArg List.length HP.out
      rw [h, putL_small (m := 0) (by omega)] at h4
      simp at h4; omega
    have hb := byteVal_of (show m < 256 by omega)
    have ho5 : (w.alloc (.cells #[.int .u8 (m : Int)] 5)).ownsRow w.heap.size 5 1 (.slice bo ds.length bc) ds.length (ds.map byteVal) := own_eq O.out fun i hi => heap_alloc_lt _ (own_lt O.out hi).2
    have hf5 := F.out.alloc (.cells #[.int .u8 (m : Int)] 5)
    have hc5 := cell_alloc_new w #[.int .u8 (m : Int)] 5 0
    have hwr : IntKind.u8.wrap (m : Int) = m := by simp [IntKind.wrap, IntKind.bits, IntKind.signed]; omega
    have O5 := Lib.hid ho5
    have F5 := Lib.hid hf5
    have C5 := Lib.hid hc5
    have HB := Lib.hid hb
    have HLT := Lib.hid (putL_small hlt)
    clear hd9 hd ho5 hf5 hc5 hb
    go_wp2_with (at_builtin; refine wpList_append_own2 _ rfl (.tmp 22) (.tmp 25) 305 rfl w.heap.size 5 i (.int .u8 0) 1 1 Tryz.underlying305 hi hz h1 h2 rfl (by decide) (.slice bo ds.length bc) ds.length (ds.map byteVal) rfl O5.out ⟨w.heap.size, 0, none⟩ 1 1 [byteVal (dig m)] rfl rfl ?c1 ?c2 ?c3 ?c4 ?c5 ?_)
    case c1 =>
     intro j u hj
     match j, hj with
     | 0, hj => simp at hj; subst hj; rw [HB.out, add_lit]; exact C5.out
     | j + 1, hj => simp at hj
    case c2 => intro u hu; simp at hu; subst hu; rfl
    case c3 => unfold maxLen; omega
    case c4 => omega
    case c5 => exact F5.out.size
    intro v7 w7 ho7 hg7 hb7
    have hf7 : Fr (fun _ => False) w w7 := F5.out.grown hg7 fun k hk => .inr (own_lt O5.out hk).1
    have hl7 : ds.map byteVal ++ [byteVal (dig m)] = (ds ++ [dig m]).map byteVal := by simp
    rw [hl7] at ho7
    obtain ⟨og, cg, rfl, hat⟩ := own_at ho7
    obtain ⟨gg, rfl, -, -, hcell⟩ := hat (by omega)
    have hconv := run_convert_bytes_back (P := Tryz.prog) w7 305 9 5 ⟨gg, 0, none⟩ cg (ds ++ [dig m]) Tryz.underlying305 Tryz.underlying5 Tryz.underlying9 (fun j hj => by
     rw [add_lit]
     refine hcell j _ ?_
     rw [List.getElem?_map, List.getElem?_eq_getElem hj]; rfl)
    rw [List.length_append, List.length_cons, List.length_nil] at hconv
    have hS : putS n = ⟨(ds ++ [dig m]).toArray⟩ := by unfold putS; rw [HP.out, HLT.out]
    have HS := Lib.hid hS
    have F7 := Lib.hid hf7
    clear ho7 hg7 hb7 hf7 hl7 hat hcell hS hwr
    go_wp2_with fail
    simp only [Exit.jump]
    go_ret
    exact ⟨by rw [HS.out]; rfl, F7.out⟩
   ·have hd8 := hd9 hge
    have hb : byteVal (dig (m % 128 + 128)) = .int .u8 ((m : Int) % 128 + 128) := by
     rw [byteVal_of (by omega)]; congr 1
    have ho5 : (w.alloc (.cells #[.int .u8 ((m : Int) % 128 + 128)] 5)).ownsRow w.heap.size 5 1 (.slice bo ds.length bc) ds.length (ds.map byteVal) := own_eq O.out fun i hi => heap_alloc_lt _ (own_lt O.out hi).2
    have hf5 := F.out.alloc (.cells #[.int .u8 ((m : Int) % 128 + 128)] 5)
    have hc5 := cell_alloc_new w #[.int .u8 ((m : Int) % 128 + 128)] 5 0
    have hor := or128 m
    have O5 := Lib.hid ho5
    have F5 := Lib.hid hf5
    have C5 := Lib.hid hc5
    have HB := Lib.hid hb
    have HBIG := Lib.hid (putL_big hge)
    clear hd9 hd ho5 hf5 hc5 hb
    go_wp2_with (at_builtin; refine wpList_append_own2 _ rfl (.tmp 14) (.tmp 18) 305 rfl w.heap.size 5 i (.int .u8 0) 1 1 Tryz.underlying305 hi hz h1 h2 rfl (by decide) (.slice bo ds.length bc) ds.length (ds.map byteVal) rfl O5.out ⟨w.heap.size, 0, none⟩ 1 1 [byteVal (dig (m % 128 + 128))] rfl rfl ?c1 ?c2 ?c3 ?c4 ?c5 ?_)
    case c1 =>
     intro j u hj
     match j, hj with
     | 0, hj => simp at hj; subst hj; rw [HB.out, add_lit]; exact C5.out
     | j + 1, hj => simp at hj
    case c2 => intro u hu; simp at hu; subst hu; rfl
    case c3 => unfold maxLen; omega
    case c4 => omega
    case c5 => exact F5.out.size
    intro v7 w7 ho7 hg7 hb7
    have hf7 : Fr (fun _ => False) w w7 := F5.out.grown hg7 fun k hk => .inr (own_lt O5.out hk).1
    have hl7 : ds.map byteVal ++ [byteVal (dig (m % 128 + 128))] = (ds ++ [dig (m % 128 + 128)]).map byteVal := by simp
    have hl8 : ds.length + 1 = (ds ++ [dig (m % 128 + 128)]).length := by simp
    rw [hl7, hl8] at ho7
    have O7 := Lib.hid ho7
    have F7 := Lib.hid hf7
    clear ho7 hg7 hb7 hf7 hl7 hl8 hor
    go_wp2_with fail
    go_step3
    have hnext : PutMid n w (m / 128) (ds ++ [dig (m % 128 + 128)]) v7 w7 := by
     refine ⟨?_, by rw [HP.out, HBIG.out]; simp, O7.out, F7.out⟩
     have h9 := HM.out
     have h8 : m / 128 * 128 ≤ m := Nat.div_mul_le_self _ _
     have h7 : m / 128 * 128 * 128 ^ ds.length ≤ m * 128 ^ ds.length := Nat.mul_le_mul_right _ h8
     rw [List.length_append, List.length_cons, List.length_nil, Nat.zero_add, Nat.pow_succ, Nat.mul_comm (128 ^ ds.length) 128, ← Nat.mul_assoc]
     omega
    exact ⟨rfl, m / 128, _, _, _, _, _, _, _, _, _, _, _, _, _, _, _, _, _, _, _, _, _, _, _, _, _, rfl, hnext⟩
  ·rintro a' wr ⟨m, ds, b, u5, u6, u7, u8, u9, u10, u11, u12, u13, u14, u15, u16, u17, u18, u19, u20, u21, u22, u23, u24, u25, u26, u27, rfl, hmid⟩
   obtain ⟨bo, bc, rfl, -⟩ := own_slice hmid.o
   have HM := Lib.hid hmid.hm
   have HP := Lib.hid hmid.hp
   have O := Lib.hid hmid.o
   have F := Lib.hid hmid.f
   clear hmid hb1 hb2 h0
   have hd : ds.length ≤ 9 ∨ m = 0 := by
    rcases Nat.eq_zero_or_pos m with h | h
    ·exact .inr h
    ·refine .inl ?_
     have hm := HM.out
     have h3 : 128 ^ ds.length ≤ m * 128 ^ ds.length := Nat.le_mul_of_pos_left _ h
     have h4 : 128 ^ ds.length < 128 ^ 10 := by omega
     have := (Nat.pow_lt_pow_iff_right (show 1 < 128 by omega)).1 h4
     omega
   have hd9 : 128 ≤ m → ds.length ≤ 8 := fun h => by
    have hm := HM.out
    have h3 : 128 * 128 ^ ds.length ≤ m * 128 ^ ds.length := Nat.mul_le_mul_right _ h
    have h4 : 128 ^ (ds.length + 1) < 128 ^ 10 := by rw [Nat.pow_succ, Nat.mul_comm]; omega
    have := (Nat.pow_lt_pow_iff_right (show 1 < 128 by omega)).1 h4
    omega
   have hm64 : m < 18446744073709551616 := by
    have hm := HM.out
    have : m * 1 ≤ m * 128 ^ ds.length := Nat.mul_le_mul_left _ (Nat.pow_pos (by omega))
    omega
   rcases Nat.lt_or_ge m 128 with hlt | hge
   ·have hd10 : ds.length ≤ 9 := by
     rcases hd with h | h
     ·exact h
     ·have h3 := putL_len 9 (zig n) (by have := zig_lt hn; omega)
      have h4 := congrArg List.length HP.out
      rw [h, putL_small (m := 0) (by omega)] at h4
      simp at h4; omega
    have hb := byteVal_of (show m < 256 by omega)
    have ho5 : (wr.alloc (.cells #[.int .u8 (m : Int)] 5)).ownsRow w.heap.size 5 1 (.slice bo ds.length bc) ds.length (ds.map byteVal) := own_eq O.out fun i hi => heap_alloc_lt _ (own_lt O.out hi).2
    have hf5 := F.out.alloc (.cells #[.int .u8 (m : Int)] 5)
    have hc5 := cell_alloc_new wr #[.int .u8 (m : Int)] 5 0
    have hwr : IntKind.u8.wrap (m : Int) = m := by simp [IntKind.wrap, IntKind.bits, IntKind.signed]; omega
    have O5 := Lib.hid ho5
    have F5 := Lib.hid hf5
    have C5 := Lib.hid hc5
    have HB := Lib.hid hb
    have HLT := Lib.hid (putL_small hlt)
    clear hd9 hd ho5 hf5 hc5 hb
    go_wp2_with (at_builtin; refine wpList_append_own2 _ rfl (.tmp 22) (.tmp 25) 305 rfl w.heap.size 5 i (.int .u8 0) 1 1 Tryz.underlying305 hi hz h1 h2 rfl (by decide) (.slice bo ds.length bc) ds.length (ds.map byteVal) rfl O5.out ⟨wr.heap.size, 0, none⟩ 1 1 [byteVal (dig m)] rfl rfl ?c1 ?c2 ?c3 ?c4 ?c5 ?_)
    case c1 =>
     intro j u hj
     match j, hj with
     | 0, hj => simp at hj; subst hj; rw [HB.out, add_lit]; exact C5.out
     | j + 1, hj => simp at hj
    case c2 => intro u hu; simp at hu; subst hu; rfl
    case c3 => unfold maxLen; omega
    case c4 => omega
    case c5 => exact F5.out.size
    intro v7 w7 ho7 hg7 hb7
    have hf7 : Fr (fun _ => False) w w7 := F5.out.grown hg7 fun k hk => .inr (own_lt O5.out hk).1
    have hl7 : ds.map byteVal ++ [byteVal (dig m)] = (ds ++ [dig m]).map byteVal := by simp
    rw [hl7] at ho7
    obtain ⟨og, cg, rfl, hat⟩ := own_at ho7
    obtain ⟨gg, rfl, -, -, hcell⟩ := hat (by omega)
    have hconv := run_convert_bytes_back (P := Tryz.prog) w7 305 9 5 ⟨gg, 0, none⟩ cg (ds ++ [dig m]) Tryz.underlying305 Tryz.underlying5 Tryz.underlying9 (fun j hj => by
     rw [add_lit]
     refine hcell j _ ?_
     rw [List.getElem?_map, List.getElem?_eq_getElem hj]; rfl)
    rw [List.length_append, List.length_cons, List.length_nil] at hconv
    have hS : putS n = ⟨(ds ++ [dig m]).toArray⟩ := by unfold putS; rw [HP.out, HLT.out]
    have HS := Lib.hid hS
    have F7 := Lib.hid hf7
    clear ho7 hg7 hb7 hf7 hl7 hat hcell hS hwr
    go_wp2_with fail
    simp only [Exit.jump]
    go_ret
    exact ⟨by rw [HS.out]; rfl, F7.out⟩
   ·have hd8 := hd9 hge
    have hb : byteVal (dig (m % 128 + 128)) = .int .u8 ((m : Int) % 128 + 128) := by
     rw [byteVal_of (by omega)]; congr 1
    have ho5 : (wr.alloc (.cells #[.int .u8 ((m : Int) % 128 + 128)] 5)).ownsRow w.heap.size 5 1 (.slice bo ds.length bc) ds.length (ds.map byteVal) := own_eq O.out fun i hi => heap_alloc_lt _ (own_lt O.out hi).2
    have hf5 := F.out.alloc (.cells #[.int .u8 ((m : Int) % 128 + 128)] 5)
    have hc5 := cell_alloc_new wr #[.int .u8 ((m : Int) % 128 + 128)] 5 0
    have hor := or128 m
    have O5 := Lib.hid ho5
    have F5 := Lib.hid hf5
    have C5 := Lib.hid hc5
    have HB := Lib.hid hb
    have HBIG := Lib.hid (putL_big hge)
    clear hd9 hd ho5 hf5 hc5 hb
    go_wp2_with (at_builtin; refine wpList_append_own2 _ rfl (.tmp 14) (.tmp 18) 305 rfl w.heap.size 5 i (.int .u8 0) 1 1 Tryz.underlying305 hi hz h1 h2 rfl (by decide) (.slice bo ds.length bc) ds.length (ds.map byteVal) rfl O5.out ⟨wr.heap.size, 0, none⟩ 1 1 [byteVal (dig (m % 128 + 128))] rfl rfl ?c1 ?c2 ?c3 ?c4 ?c5 ?_)
    case c1 =>
     intro j u hj
     match j, hj with
     | 0, hj => simp at hj; subst hj; rw [HB.out, add_lit]; exact C5.out
     | j + 1, hj => simp at hj
    case c2 => intro u hu; simp at hu; subst hu; rfl
    case c3 => unfold maxLen; omega
    case c4 => omega
    case c5 => exact F5.out.size
    intro v7 w7 ho7 hg7 hb7
    have hf7 : Fr (fun _ => False) w w7 := F5.out.grown hg7 fun k hk => .inr (own_lt O5.out hk).1
    have hl7 : ds.map byteVal ++ [byteVal (dig (m % 128 + 128))] = (ds ++ [dig (m % 128 + 128)]).map byteVal := by simp
    have hl8 : ds.length + 1 = (ds ++ [dig (m % 128 + 128)]).length := by simp
    rw [hl7, hl8] at ho7
    have O7 := Lib.hid ho7
    have F7 := Lib.hid hf7
    clear ho7 hg7 hb7 hf7 hl7 hl8 hor
    go_wp2_with fail
    go_step3
    have hnext : PutMid n w (m / 128) (ds ++ [dig (m % 128 + 128)]) v7 w7 := by
     refine ⟨?_, by rw [HP.out, HBIG.out]; simp, O7.out, F7.out⟩
     have h9 := HM.out
     have h8 : m / 128 * 128 ≤ m := Nat.div_mul_le_self _ _
     have h7 : m / 128 * 128 * 128 ^ ds.length ≤ m * 128 ^ ds.length := Nat.mul_le_mul_right _ h8
     rw [List.length_append, List.length_cons, List.length_nil, Nat.zero_add, Nat.pow_succ, Nat.mul_comm (128 ^ ds.length) 128, ← Nat.mul_assoc]
     omega
    exact ⟨rfl, ⟨m / 128, _, _, _, _, _, _, _, _, _, _, _, _, _, _, _, _, _, _, _, _, _, _, _, _, _, rfl, hnext⟩, by simp [intOf]; omega⟩
 ·go_enter Tryz.func185, Tryz.ntmps185
  go_wp2_with fail
  refine wp_scope_jumps 0 (fun a' w' => ∃ (m : Nat) (ds : List UInt8) (b u5 u6 u7 u8 u9 u10 u11 u12 u13 u14 u15 u16 u17 u18 u19 u20 u21 u22 u23 u24 u25 u26 u27 : Value), a' = { tmps := #[.int .i64 n, undef, .string ⟨#[]⟩, .int .u64 m, b, u5, u6, u7, u8, u9, u10, u11, u12, u13, u14, u15, u16, u17, u18, u19, u20, u21, u22, u23, u24, u25, u26, u27], defers := [] } ∧ PutMid n w m ds b w') (fun a' _ => (intOf (a'.tmps.getD 3 undef)).toNat) rfl ?_ ?_
  ·go_wp2_with fail
   rw [zz_pos n h0 hb2]
   have hmid := PutMid.start n w hn
   obtain ⟨m, hzm⟩ : ∃ m, m = zig n := ⟨_, rfl⟩
   obtain ⟨ds, hds⟩ : ∃ ds : List UInt8, ds = [] := ⟨_, rfl⟩
   rw [← hzm, ← hds] at hmid
   rw [← hzm]
   have hb0 : (Value.slice none 0 0) = .slice none ds.length 0 := by rw [hds]; rfl
   rw [hb0] at hmid ⊢
   obtain ⟨bo, hbo⟩ : ∃ bo : Option Addr, bo = none := ⟨_, rfl⟩
   obtain ⟨bc, hbc⟩ : ∃ bc : Nat, bc = 0 := ⟨_, rfl⟩
   rw [← hbo, ← hbc] at hmid ⊢
   have HM := Lib.hid hmid.hm
   have HP := Lib.hid hmid.hp
   have O := Lib.hid hmid.o
   have F := Lib.hid hmid.f
   clear hmid hzm hds hb0 hbo hbc hb1 hb2 h0
   go_step3
   have hd : ds.length ≤ 9 ∨ m = 0 := by
    rcases Nat.eq_zero_or_pos m with h | h
    ·exact .inr h
    ·refine .inl ?_
     have hm := HM.out
     have h3 : 128 ^ ds.length ≤ m * 128 ^ ds.length := Nat.le_mul_of_pos_left _ h
     have h4 : 128 ^ ds.length < 128 ^ 10 := by omega
     have := (Nat.pow_lt_pow_iff_right (show 1 < 128 by omega)).1 h4
     omega
   have hd9 : 128 ≤ m → ds.length ≤ 8 := fun h => by
    have hm := HM.out
    have h3 : 128 * 128 ^ ds.length ≤ m * 128 ^ ds.length := Nat.mul_le_mul_right _ h
    have h4 : 128 ^ (ds.length + 1) < 128 ^ 10 := by rw [Nat.pow_succ, Nat.mul_comm]; omega
    have := (Nat.pow_lt_pow_iff_right (show 1 < 128 by omega)).1 h4
    omega
   have hm64 : m < 18446744073709551616 := by
    have hm := HM.out
    have : m * 1 ≤ m * 128 ^ ds.length := Nat.mul_le_mul_left _ (Nat.pow_pos (by omega))
    omega
   rcases Nat.lt_or_ge m 128 with hlt | hge
   ·have hd10 : ds.length ≤ 9 := by
     rcases hd with h | h
     ·exact h
     ·have h3 := putL_len 9 (zig n) (by have := zig_lt hn; omega)
      have h4 := congrArg List.length HP.out
      rw [h, putL_small (m := 0) (by omega)] at h4
      simp at h4; omega
    have hb := byteVal_of (show m < 256 by omega)
    have ho5 : (w.alloc (.cells #[.int .u8 (m : Int)] 5)).ownsRow w.heap.size 5 1 (.slice bo ds.length bc) ds.length (ds.map byteVal) := own_eq O.out fun i hi => heap_alloc_lt _ (own_lt O.out hi).2
    have hf5 := F.out.alloc (.cells #[.int .u8 (m : Int)] 5)
    have hc5 := cell_alloc_new w #[.int .u8 (m : Int)] 5 0
    have hwr : IntKind.u8.wrap (m : Int) = m := by simp [IntKind.wrap, IntKind.bits, IntKind.signed]; omega
    have O5 := Lib.hid ho5
    have F5 := Lib.hid hf5
    have C5 := Lib.hid hc5
    have HB := Lib.hid hb
    have HLT := Lib.hid (putL_small hlt)
    clear hd9 hd ho5 hf5 hc5 hb
    go_wp2_with (at_builtin; refine wpList_append_own2 _ rfl (.tmp 22) (.tmp 25) 305 rfl w.heap.size 5 i (.int .u8 0) 1 1 Tryz.underlying305 hi hz h1 h2 rfl (by decide) (.slice bo ds.length bc) ds.length (ds.map byteVal) rfl O5.out ⟨w.heap.size, 0, none⟩ 1 1 [byteVal (dig m)] rfl rfl ?c1 ?c2 ?c3 ?c4 ?c5 ?_)
    case c1 =>
     intro j u hj
     match j, hj with
     | 0, hj => simp at hj; subst hj; rw [HB.out, add_lit]; exact C5.out
     | j + 1, hj => simp at hj
    case c2 => intro u hu; simp at hu; subst hu; rfl
    case c3 => unfold maxLen; omega
    case c4 => omega
    case c5 => exact F5.out.size
    intro v7 w7 ho7 hg7 hb7
    have hf7 : Fr (fun _ => False) w w7 := F5.out.grown hg7 fun k hk => .inr (own_lt O5.out hk).1
    have hl7 : ds.map byteVal ++ [byteVal (dig m)] = (ds ++ [dig m]).map byteVal := by simp
    rw [hl7] at ho7
    obtain ⟨og, cg, rfl, hat⟩ := own_at ho7
    obtain ⟨gg, rfl, -, -, hcell⟩ := hat (by omega)
    have hconv := run_convert_bytes_back (P := Tryz.prog) w7 305 9 5 ⟨gg, 0, none⟩ cg (ds ++ [dig m]) Tryz.underlying305 Tryz.underlying5 Tryz.underlying9 (fun j hj => by
     rw [add_lit]
     refine hcell j _ ?_
     rw [List.getElem?_map, List.getElem?_eq_getElem hj]; rfl)
    rw [List.length_append, List.length_cons, List.length_nil] at hconv
    have hS : putS n = ⟨(ds ++ [dig m]).toArray⟩ := by unfold putS; rw [HP.out, HLT.out]
    have HS := Lib.hid hS
    have F7 := Lib.hid hf7
    clear ho7 hg7 hb7 hf7 hl7 hat hcell hS hwr
    go_wp2_with fail
    simp only [Exit.jump]
    go_ret
    exact ⟨by rw [HS.out]; rfl, F7.out⟩
   ·have hd8 := hd9 hge
    have hb : byteVal (dig (m % 128 + 128)) = .int .u8 ((m : Int) % 128 + 128) := by
     rw [byteVal_of (by omega)]; congr 1
    have ho5 : (w.alloc (.cells #[.int .u8 ((m : Int) % 128 + 128)] 5)).ownsRow w.heap.size 5 1 (.slice bo ds.length bc) ds.length (ds.map byteVal) := own_eq O.out fun i hi => heap_alloc_lt _ (own_lt O.out hi).2
    have hf5 := F.out.alloc (.cells #[.int .u8 ((m : Int) % 128 + 128)] 5)
    have hc5 := cell_alloc_new w #[.int .u8 ((m : Int) % 128 + 128)] 5 0
    have hor := or128 m
    have O5 := Lib.hid ho5
    have F5 := Lib.hid hf5
    have C5 := Lib.hid hc5
    have HB := Lib.hid hb
    have HBIG := Lib.hid (putL_big hge)
    clear hd9 hd ho5 hf5 hc5 hb
    go_wp2_with (at_builtin; refine wpList_append_own2 _ rfl (.tmp 14) (.tmp 18) 305 rfl w.heap.size 5 i (.int .u8 0) 1 1 Tryz.underlying305 hi hz h1 h2 rfl (by decide) (.slice bo ds.length bc) ds.length (ds.map byteVal) rfl O5.out ⟨w.heap.size, 0, none⟩ 1 1 [byteVal (dig (m % 128 + 128))] rfl rfl ?c1 ?c2 ?c3 ?c4 ?c5 ?_)
    case c1 =>
     intro j u hj
     match j, hj with
     | 0, hj => simp at hj; subst hj; rw [HB.out, add_lit]; exact C5.out
     | j + 1, hj => simp at hj
    case c2 => intro u hu; simp at hu; subst hu; rfl
    case c3 => unfold maxLen; omega
    case c4 => omega
    case c5 => exact F5.out.size
    intro v7 w7 ho7 hg7 hb7
    have hf7 : Fr (fun _ => False) w w7 := F5.out.grown hg7 fun k hk => .inr (own_lt O5.out hk).1
    have hl7 : ds.map byteVal ++ [byteVal (dig (m % 128 + 128))] = (ds ++ [dig (m % 128 + 128)]).map byteVal := by simp
    have hl8 : ds.length + 1 = (ds ++ [dig (m % 128 + 128)]).length := by simp
    rw [hl7, hl8] at ho7
    have O7 := Lib.hid ho7
    have F7 := Lib.hid hf7
    clear ho7 hg7 hb7 hf7 hl7 hl8 hor
    go_wp2_with fail
    go_step3
    have hnext : PutMid n w (m / 128) (ds ++ [dig (m % 128 + 128)]) v7 w7 := by
     refine ⟨?_, by rw [HP.out, HBIG.out]; simp, O7.out, F7.out⟩
     have h9 := HM.out
     have h8 : m / 128 * 128 ≤ m := Nat.div_mul_le_self _ _
     have h7 : m / 128 * 128 * 128 ^ ds.length ≤ m * 128 ^ ds.length := Nat.mul_le_mul_right _ h8
     rw [List.length_append, List.length_cons, List.length_nil, Nat.zero_add, Nat.pow_succ, Nat.mul_comm (128 ^ ds.length) 128, ← Nat.mul_assoc]
     omega
    exact ⟨rfl, m / 128, _, _, _, _, _, _, _, _, _, _, _, _, _, _, _, _, _, _, _, _, _, _, _, _, _, rfl, hnext⟩
  ·rintro a' wr ⟨m, ds, b, u5, u6, u7, u8, u9, u10, u11, u12, u13, u14, u15, u16, u17, u18, u19, u20, u21, u22, u23, u24, u25, u26, u27, rfl, hmid⟩
   obtain ⟨bo, bc, rfl, -⟩ := own_slice hmid.o
   have HM := Lib.hid hmid.hm
   have HP := Lib.hid hmid.hp
   have O := Lib.hid hmid.o
   have F := Lib.hid hmid.f
   clear hmid hb1 hb2 h0
   have hd : ds.length ≤ 9 ∨ m = 0 := by
    rcases Nat.eq_zero_or_pos m with h | h
    ·exact .inr h
    ·refine .inl ?_
     have hm := HM.out
     have h3 : 128 ^ ds.length ≤ m * 128 ^ ds.length := Nat.le_mul_of_pos_left _ h
     have h4 : 128 ^ ds.length < 128 ^ 10 := by omega
     have := (Nat.pow_lt_pow_iff_right (show 1 < 128 by omega)).1 h4
     omega
   have hd9 : 128 ≤ m → ds.length ≤ 8 := fun h => by
    have hm := HM.out
    have h3 : 128 * 128 ^ ds.length ≤ m * 128 ^ ds.length := Nat.mul_le_mul_right _ h
    have h4 : 128 ^ (ds.length + 1) < 128 ^ 10 := by rw [Nat.pow_succ, Nat.mul_comm]; omega
    have := (Nat.pow_lt_pow_iff_right (show 1 < 128 by omega)).1 h4
    omega
   have hm64 : m < 18446744073709551616 := by
    have hm := HM.out
    have : m * 1 ≤ m * 128 ^ ds.length := Nat.mul_le_mul_left _ (Nat.pow_pos (by omega))
    omega
   rcases Nat.lt_or_ge m 128 with hlt | hge
   ·have hd10 : ds.length ≤ 9 := by
     rcases hd with h | h
     ·exact h
     ·have h3 := putL_len 9 (zig n) (by have := zig_lt hn; omega)
      have h4 := congrArg List.length HP.out
      rw [h, putL_small (m := 0) (by omega)] at h4
      simp at h4; omega
    have hb := byteVal_of (show m < 256 by omega)
    have ho5 : (wr.alloc (.cells #[.int .u8 (m : Int)] 5)).ownsRow w.heap.size 5 1 (.slice bo ds.length bc) ds.length (ds.map byteVal) := own_eq O.out fun i hi => heap_alloc_lt _ (own_lt O.out hi).2
    have hf5 := F.out.alloc (.cells #[.int .u8 (m : Int)] 5)
    have hc5 := cell_alloc_new wr #[.int .u8 (m : Int)] 5 0
    have hwr : IntKind.u8.wrap (m : Int) = m := by simp [IntKind.wrap, IntKind.bits, IntKind.signed]; omega
    have O5 := Lib.hid ho5
    have F5 := Lib.hid hf5
    have C5 := Lib.hid hc5
    have HB := Lib.hid hb
    have HLT := Lib.hid (putL_small hlt)
    clear hd9 hd ho5 hf5 hc5 hb
    go_wp2_with (at_builtin; refine wpList_append_own2 _ rfl (.tmp 22) (.tmp 25) 305 rfl w.heap.size 5 i (.int .u8 0) 1 1 Tryz.underlying305 hi hz h1 h2 rfl (by decide) (.slice bo ds.length bc) ds.length (ds.map byteVal) rfl O5.out ⟨wr.heap.size, 0, none⟩ 1 1 [byteVal (dig m)] rfl rfl ?c1 ?c2 ?c3 ?c4 ?c5 ?_)
    case c1 =>
     intro j u hj
     match j, hj with
     | 0, hj => simp at hj; subst hj; rw [HB.out, add_lit]; exact C5.out
     | j + 1, hj => simp at hj
    case c2 => intro u hu; simp at hu; subst hu; rfl
    case c3 => unfold maxLen; omega
    case c4 => omega
    case c5 => exact F5.out.size
    intro v7 w7 ho7 hg7 hb7
    have hf7 : Fr (fun _ => False) w w7 := F5.out.grown hg7 fun k hk => .inr (own_lt O5.out hk).1
    have hl7 : ds.map byteVal ++ [byteVal (dig m)] = (ds ++ [dig m]).map byteVal := by simp
    rw [hl7] at ho7
    obtain ⟨og, cg, rfl, hat⟩ := own_at ho7
    obtain ⟨gg, rfl, -, -, hcell⟩ := hat (by omega)
    have hconv := run_convert_bytes_back (P := Tryz.prog) w7 305 9 5 ⟨gg, 0, none⟩ cg (ds ++ [dig m]) Tryz.underlying305 Tryz.underlying5 Tryz.underlying9 (fun j hj => by
     rw [add_lit]
     refine hcell j _ ?_
     rw [List.getElem?_map, List.getElem?_eq_getElem hj]; rfl)
    rw [List.length_append, List.length_cons, List.length_nil] at hconv
    have hS : putS n = ⟨(ds ++ [dig m]).toArray⟩ := by unfold putS; rw [HP.out, HLT.out]
    have HS := Lib.hid hS
    have F7 := Lib.hid hf7
    clear ho7 hg7 hb7 hf7 hl7 hat hcell hS hwr
    go_wp2_with fail
    simp only [Exit.jump]
    go_ret
    exact ⟨by rw [HS.out]; rfl, F7.out⟩
   ·have hd8 := hd9 hge
    have hb : byteVal (dig (m % 128 + 128)) = .int .u8 ((m : Int) % 128 + 128) := by
     rw [byteVal_of (by omega)]; congr 1
    have ho5 : (wr.alloc (.cells #[.int .u8 ((m : Int) % 128 + 128)] 5)).ownsRow w.heap.size 5 1 (.slice bo ds.length bc) ds.length (ds.map byteVal) := own_eq O.out fun i hi => heap_alloc_lt _ (own_lt O.out hi).2
    have hf5 := F.out.alloc (.cells #[.int .u8 ((m : Int) % 128 + 128)] 5)
    have hc5 := cell_alloc_new wr #[.int .u8 ((m : Int) % 128 + 128)] 5 0
    have hor := or128 m
    have O5 := Lib.hid ho5
    have F5 := Lib.hid hf5
    have C5 := Lib.hid hc5
    have HB := Lib.hid hb
    have HBIG := Lib.hid (putL_big hge)
    clear hd9 hd ho5 hf5 hc5 hb
    go_wp2_with (at_builtin; refine wpList_append_own2 _ rfl (.tmp 14) (.tmp 18) 305 rfl w.heap.size 5 i (.int .u8 0) 1 1 Tryz.underlying305 hi hz h1 h2 rfl (by decide) (.slice bo ds.length bc) ds.length (ds.map byteVal) rfl O5.out ⟨wr.heap.size, 0, none⟩ 1 1 [byteVal (dig (m % 128 + 128))] rfl rfl ?c1 ?c2 ?c3 ?c4 ?c5 ?_)
    case c1 =>
     intro j u hj
     match j, hj with
     | 0, hj => simp at hj; subst hj; rw [HB.out, add_lit]; exact C5.out
     | j + 1, hj => simp at hj
    case c2 => intro u hu; simp at hu; subst hu; rfl
    case c3 => unfold maxLen; omega
    case c4 => omega
    case c5 => exact F5.out.size
    intro v7 w7 ho7 hg7 hb7
    have hf7 : Fr (fun _ => False) w w7 := F5.out.grown hg7 fun k hk => .inr (own_lt O5.out hk).1
    have hl7 : ds.map byteVal ++ [byteVal (dig (m % 128 + 128))] = (ds ++ [dig (m % 128 + 128)]).map byteVal := by simp
    have hl8 : ds.length + 1 = (ds ++ [dig (m % 128 + 128)]).length := by simp
    rw [hl7, hl8] at ho7
    have O7 := Lib.hid ho7
    have F7 := Lib.hid hf7
    clear ho7 hg7 hb7 hf7 hl7 hl8 hor
    go_wp2_with fail
    go_step3
    have hnext : PutMid n w (m / 128) (ds ++ [dig (m % 128 + 128)]) v7 w7 := by
     refine ⟨?_, by rw [HP.out, HBIG.out]; simp, O7.out, F7.out⟩
     have h9 := HM.out
     have h8 : m / 128 * 128 ≤ m := Nat.div_mul_le_self _ _
     have h7 : m / 128 * 128 * 128 ^ ds.length ≤ m * 128 ^ ds.length := Nat.mul_le_mul_right _ h8
     rw [List.length_append, List.length_cons, List.length_nil, Nat.zero_add, Nat.pow_succ, Nat.mul_comm (128 ^ ds.length) 128, ← Nat.mul_assoc]
     omega
    exact ⟨rfl, ⟨m / 128, _, _, _, _, _, _, _, _, _, _, _, _, _, _, _, _, _, _, _, _, _, _, _, _, _, rfl, hnext⟩, by simp [intOf]; omega⟩
set_option maxHeartbeats 4000000 in
theorem text_walk (s : ByteArray) (w : World) (hs : s.size ≤ 1000000000) :
  Calls Tryz.prog 186 #[.string s] w fun e w' => e = .returned (.string (textS s)) ∧ Fr (fun _ => False) w w' := by
 have hp := putS_size (len_wf hs)
 go_enter Tryz.func186, Tryz.ntmps186
 go_wp2_with fail
 refine (put_walk _ _ (len_wf hs)).mono ?_
 rintro e w2 ⟨rfl, hf⟩
 go_wp2_with fail
 go_ret
 exact ⟨rfl, hf⟩
end Go.Proofs.YtfdhofabgdkkkaaGreatDoor
