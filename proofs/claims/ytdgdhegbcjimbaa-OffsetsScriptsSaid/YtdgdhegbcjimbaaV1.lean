/- Put and Text of the document: the walks. -/
import Derived.Test.YtdgdhegbcjimbaaM1
import Derived.Test.YtdgdhegbcjimbaaChecked
import Derived.Lib.Hide
import Derived.WalkKit
import Derived.Lib.SliceRun
import Derived.WalkSpells
import Derived.WalkLawsBesides
import Derived.BigQuiet
import Derived.OwnWalk
import Derived.Deep.QuietTactic
import Derived.Laws.IdiomStrings
namespace Go.Proofs.Ytdgdhegbcjimbaa
open Go.RowKit Go.Fm Go.BigFrame
set_option linter.unusedVariables false
set_option linter.unusedSimpArgs false

theorem add_lit (g k : Nat) : (⟨g, 0, none⟩ : Addr).add k = ⟨g, k, none⟩ := by
  unfold Addr.add
  split
  · rename_i h0; rw [h0]
  · simp
theorem add_add (a : Addr) (i j : Nat) (hj : 0 < j) : a.add (i + j) = ⟨(a.add i).block, (a.add i).off + j, none⟩ := by
  unfold Addr.add
  rw [if_neg (by omega)]
  split
  · rename_i h0; subst h0; simp
  · simp [Nat.add_assoc]
theorem own_at {w : World} {B : Nat} {e : TypeId} {s n : Nat} {v : Value} {xs : List Value} (h : w.ownsRow B e s v n xs) :
    ∃ oa cap, v = .slice oa n cap ∧ (0 < n → ∃ g, oa = some ⟨g, 0, none⟩ ∧ v.ownBlock = some g ∧ B ≤ g ∧ ∀ k u, xs[k]? = some u → w.cell? ⟨g, k, none⟩ = some u) := by
  obtain ⟨a, cap, hv, h1, h2⟩ := own_slice h
  refine ⟨a, cap, hv, fun hn => ?_⟩
  cases a with
  | none => have := (h2 rfl).1; omega
  | some a =>
    obtain ⟨h3, h4⟩ := h1 a rfl
    refine ⟨a.block, by rw [← h3], h4, (own_lt h h4).1, fun k u hu => ?_⟩
    have := h.cells h4 k u hu
    rw [add_lit] at this
    exact this

def dig (k : Nat) : UInt8 := UInt8.ofNat k
/-- The digits of a number, to the base of 128. -/
def putL (m : Nat) : List UInt8 := if m < 128 then [dig m] else dig (m % 128 + 128) :: putL (m / 128)
termination_by m
decreasing_by omega
def zig (n : Int) : Nat := if n < 0 then 2 * (-(n + 1)).toNat + 1 else 2 * n.toNat
def putS (n : Int) : ByteArray := ⟨(putL (zig n)).toArray⟩
theorem putL_small {m : Nat} (h : m < 128) : putL m = [dig m] := by rw [putL, if_pos h]
theorem putL_big {m : Nat} (h : 128 ≤ m) : putL m = dig (m % 128 + 128) :: putL (m / 128) := by rw [putL, if_neg (by omega)]
theorem putL_len : ∀ (k m : Nat), m < 128 ^ (k + 1) → (putL m).length ≤ k + 1
  | 0, m, h => by rw [putL_small (by simpa using h)]; simp
  | k + 1, m, h => by
    by_cases hm : m < 128
    · rw [putL_small hm]; simp
    · rw [putL_big (by omega)]
      have : m / 128 < 128 ^ (k + 1) := by
        rw [Nat.pow_succ] at h
        exact Nat.div_lt_of_lt_mul (by rw [Nat.mul_comm]; exact h)
      have := putL_len k (m / 128) this
      simp; omega
theorem zig_lt {n : Int} (h : (Lit.int .i64 n).wf = true) : zig n < 18446744073709551616 := by
  simp [Lit.wf, IntKind.min, IntKind.max, IntKind.signed, IntKind.bits] at h
  unfold zig
  split <;> omega
theorem putS_size {n : Int} (h : (Lit.int .i64 n).wf = true) : (putS n).size ≤ 10 := by
  have h1 := zig_lt h
  have h2 := putL_len 9 (zig n) (by omega)
  simpa [putS, ByteArray.size] using h2

def byteVal (b : UInt8) : Value := .int .u8 (b.toNat : Int)
theorem byteVal_of {k : Nat} (h : k < 256) : byteVal (dig k) = .int .u8 (k : Int) := by
  unfold byteVal dig
  rw [UInt8.toNat_ofNat_of_lt' h]
theorem info5 : (Try.prog.info? 5).map (fun i => (i.zero, i.size, i.bytes)) = some (some (.int .u8 0), 1, 1) := by kernel_rfl

set_option maxRecDepth 100000 in
set_option maxHeartbeats 4000000 in
theorem rput_walk (n : Int) (w : World) (hn : (Lit.int .i64 n).wf = true) :
    Calls Try.prog 55 #[.int .i64 n] w fun e w' => e = .returned (.string (putS n)) ∧ Fr (fun _ => False) w w' := by
  obtain ⟨i, hi, hz, h1, h2⟩ := info_parts info5
  have hb := hn
  simp [Lit.wf, IntKind.min, IntKind.max, IntKind.signed, IntKind.bits] at hb
  obtain ⟨hb1, hb2⟩ := hb
  rcases Int.lt_or_le n 0 with h0 | h0
  · go_enter Try.func55, Try.ntmps55
    go_wp2_with fail
    go_loopw [4, 5] (fun u b wr => ∃ (m : Nat) (ds : List UInt8), u = .int .u64 m ∧ m * 128 ^ ds.length < 18446744073709551616 ∧ putL (zig n) = ds ++ putL m ∧ wr.ownsRow w.heap.size 5 1 b ds.length (ds.map byteVal) ∧ Fr (fun _ => False) w wr) (fun u _ _ => (intOf u).toNat)
    case atStart => exact ⟨zig n, [], by unfold zig; rw [if_pos h0]; go_num, by have := zig_lt hn; simpa using this, by simp, World.ownsRow_nil _ _ _ _, Fr.same _⟩
    case round =>
      obtain ⟨m, ds, rfl, hm, hp, ho, hf⟩ := hrel
      have O := Lib.hid ho
      have F := Lib.hid hf
      have HP := Lib.hid hp
      have HM := Lib.hid hm
      have hd : ds.length ≤ 9 ∨ m = 0 := by
        rcases Nat.eq_zero_or_pos m with h | h
        · exact .inr h
        · refine .inl ?_
          have h3 : 128 ^ ds.length ≤ m * 128 ^ ds.length := Nat.le_mul_of_pos_left _ h
          have h4 : 128 ^ ds.length < 128 ^ 10 := by omega
          have := (Nat.pow_lt_pow_iff_right (show 1 < 128 by omega)).1 h4
          omega
      have hd9 : 128 ≤ m → ds.length ≤ 8 := fun h => by
        have h3 : 128 * 128 ^ ds.length ≤ m * 128 ^ ds.length := Nat.mul_le_mul_right _ h
        have h4 : 128 ^ (ds.length + 1) < 128 ^ 10 := by rw [Nat.pow_succ, Nat.mul_comm]; omega
        have := (Nat.pow_lt_pow_iff_right (show 1 < 128 by omega)).1 h4
        omega
      obtain ⟨bo, bc, rfl, -⟩ := own_slice O.out
      clear hf ho hp
      rcases Nat.lt_or_ge m 128 with hlt | hge
      · have hd10 : ds.length ≤ 9 := by
          rcases hd with h | h
          · exact h
          · have h3 := putL_len 9 (zig n) (by have := zig_lt hn; omega)
            have h4 := congrArg List.length HP.out
            rw [h, putL_small (m := 0) (by omega)] at h4
            simp at h4; omega
        have hb := byteVal_of (show m < 256 by omega)
        have ho5 : (wr.alloc (.cells #[.int .u8 (m : Int)] 5)).ownsRow w.heap.size 5 1 (.slice bo ds.length bc) ds.length (ds.map byteVal) := own_eq O.out fun i hi => heap_alloc_lt _ (own_lt O.out hi).2
        have hf5 := F.out.alloc (.cells #[.int .u8 (m : Int)] 5)
        have hc5 := cell_alloc_new wr #[.int .u8 (m : Int)] 5 0
        have O5 := Lib.hid ho5
        have F5 := Lib.hid hf5
        have C5 := Lib.hid hc5
        have HB := Lib.hid hb
        have HLT := Lib.hid (putL_small hlt)
        clear hd9 hd hm ho5 hf5 hc5 hb
        go_wp2_with (at_builtin; refine wpList_append_own2 _ rfl (.tmp 27) (.tmp 30) 81 rfl w.heap.size 5 i (.int .u8 0) 1 1 Try.underlying81 hi hz h1 h2 rfl (by decide) (.slice bo ds.length bc) ds.length (ds.map byteVal) rfl O5.out ⟨wr.heap.size, 0, none⟩ 1 1 [byteVal (dig m)] rfl rfl ?c1 ?c2 ?c3 ?c4 ?c5 ?_)
        case c1 =>
          intro j u hj
          match j, hj with
          | 0, hj => simp at hj; subst hj; rw [HB.out, add_lit]; exact C5.out
          | j + 1, hj => simp at hj
        case c2 => intro u hu; simp at hu; subst hu; rfl
        case c3 => unfold maxLen; omega
        case c4 => omega
        case c5 => exact F5.out.size
        intro v7 w7 ho7 hg7 hb7
        have hf7 : Fr (fun _ => False) w w7 := F5.out.grown hg7 fun k hk => .inr (own_lt O5.out hk).1
        have hl7 : ds.map byteVal ++ [byteVal (dig m)] = (ds ++ [dig m]).map byteVal := by simp
        rw [hl7] at ho7
        obtain ⟨og, cg, rfl, hat⟩ := own_at ho7
        obtain ⟨gg, rfl, -, -, hcell⟩ := hat (by omega)
        have hconv := run_convert_bytes_back (P := Try.prog) w7 81 9 5 ⟨gg, 0, none⟩ cg (ds ++ [dig m]) Try.underlying81 Try.underlying5 Try.underlying9 (fun j hj => by
          rw [add_lit]
          refine hcell j _ ?_
          rw [List.getElem?_map, List.getElem?_eq_getElem hj]; rfl)
        rw [List.length_append, List.length_cons, List.length_nil] at hconv
        have hS : putS n = ⟨(ds ++ [dig m]).toArray⟩ := by unfold putS; rw [HP.out, HLT.out]
        have HS := Lib.hid hS
        have F7 := Lib.hid hf7
        clear ho7 hg7 hb7 hf7 hl7 hat hcell hS
        go_wp2_with fail
        go_ret
        exact ⟨by rw [HS.out]; rfl, F7.out⟩
      · have hd8 := hd9 hge
        have hm64 : m < 18446744073709551616 := by
          have : m * 1 ≤ m * 128 ^ ds.length := Nat.mul_le_mul_left _ (Nat.pow_pos (by omega))
          omega
        have hb : byteVal (dig (m % 128 + 128)) = .int .u8 ((m : Int) % 128 + 128) := by
          rw [byteVal_of (by omega)]; congr 1
        have ho5 : (wr.alloc (.cells #[.int .u8 ((m : Int) % 128 + 128)] 5)).ownsRow w.heap.size 5 1 (.slice bo ds.length bc) ds.length (ds.map byteVal) := own_eq O.out fun i hi => heap_alloc_lt _ (own_lt O.out hi).2
        have hf5 := F.out.alloc (.cells #[.int .u8 ((m : Int) % 128 + 128)] 5)
        have hc5 := cell_alloc_new wr #[.int .u8 ((m : Int) % 128 + 128)] 5 0
        have O5 := Lib.hid ho5
        have F5 := Lib.hid hf5
        have C5 := Lib.hid hc5
        have HB := Lib.hid hb
        have HBIG := Lib.hid (putL_big hge)
        clear hd9 hd hm ho5 hf5 hc5 hb
        go_wp2_with (at_builtin; refine wpList_append_own2 _ rfl (.tmp 18) (.tmp 23) 81 rfl w.heap.size 5 i (.int .u8 0) 1 1 Try.underlying81 hi hz h1 h2 rfl (by decide) (.slice bo ds.length bc) ds.length (ds.map byteVal) rfl O5.out ⟨wr.heap.size, 0, none⟩ 1 1 [byteVal (dig (m % 128 + 128))] rfl rfl ?c1 ?c2 ?c3 ?c4 ?c5 ?_)
        case c1 =>
          intro j u hj
          match j, hj with
          | 0, hj => simp at hj; subst hj; rw [HB.out, add_lit]; exact C5.out
          | j + 1, hj => simp at hj
        case c2 => intro u hu; simp at hu; subst hu; rfl
        case c3 => unfold maxLen; omega
        case c4 => omega
        case c5 => exact F5.out.size
        intro v7 w7 ho7 hg7 hb7
        have hf7 : Fr (fun _ => False) w w7 := F5.out.grown hg7 fun k hk => .inr (own_lt O5.out hk).1
        have hl7 : ds.map byteVal ++ [byteVal (dig (m % 128 + 128))] = (ds ++ [dig (m % 128 + 128)]).map byteVal := by simp
        have hl8 : ds.length + 1 = (ds ++ [dig (m % 128 + 128)]).length := by simp
        rw [hl7, hl8] at ho7
        have O7 := Lib.hid ho7
        have F7 := Lib.hid hf7
        clear ho7 hg7 hb7 hf7 hl7 hl8
        go_wp2_with fail
        go_roundw
        case rel =>
          refine ⟨m / 128, ds ++ [dig (m % 128 + 128)], by go_num, ?_, by rw [HP.out, HBIG.out]; simp, O7.out, F7.out⟩
          have h9 := HM.out
          have h8 : m / 128 * 128 ≤ m := Nat.div_mul_le_self _ _
          have h7 : m / 128 * 128 * 128 ^ ds.length ≤ m * 128 ^ ds.length := Nat.mul_le_mul_right _ h8
          rw [List.length_append, List.length_cons, List.length_nil, Nat.zero_add, Nat.pow_succ, Nat.mul_comm (128 ^ ds.length) 128, ← Nat.mul_assoc]
          omega
        case measure => simp [intOf]; omega
  · go_enter Try.func55, Try.ntmps55
    go_wp2_with fail
    go_loopw [4, 5] (fun u b wr => ∃ (m : Nat) (ds : List UInt8), u = .int .u64 m ∧ m * 128 ^ ds.length < 18446744073709551616 ∧ putL (zig n) = ds ++ putL m ∧ wr.ownsRow w.heap.size 5 1 b ds.length (ds.map byteVal) ∧ Fr (fun _ => False) w wr) (fun u _ _ => (intOf u).toNat)
    case atStart => exact ⟨zig n, [], by unfold zig; rw [if_neg (by omega)]; go_num, by have := zig_lt hn; simpa using this, by simp, World.ownsRow_nil _ _ _ _, Fr.same _⟩
    case round =>
      obtain ⟨m, ds, rfl, hm, hp, ho, hf⟩ := hrel
      have O := Lib.hid ho
      have F := Lib.hid hf
      have HP := Lib.hid hp
      have HM := Lib.hid hm
      have hd : ds.length ≤ 9 ∨ m = 0 := by
        rcases Nat.eq_zero_or_pos m with h | h
        · exact .inr h
        · refine .inl ?_
          have h3 : 128 ^ ds.length ≤ m * 128 ^ ds.length := Nat.le_mul_of_pos_left _ h
          have h4 : 128 ^ ds.length < 128 ^ 10 := by omega
          have := (Nat.pow_lt_pow_iff_right (show 1 < 128 by omega)).1 h4
          omega
      have hd9 : 128 ≤ m → ds.length ≤ 8 := fun h => by
        have h3 : 128 * 128 ^ ds.length ≤ m * 128 ^ ds.length := Nat.mul_le_mul_right _ h
        have h4 : 128 ^ (ds.length + 1) < 128 ^ 10 := by rw [Nat.pow_succ, Nat.mul_comm]; omega
        have := (Nat.pow_lt_pow_iff_right (show 1 < 128 by omega)).1 h4
        omega
      obtain ⟨bo, bc, rfl, -⟩ := own_slice O.out
      clear hf ho hp
      rcases Nat.lt_or_ge m 128 with hlt | hge
      · have hd10 : ds.length ≤ 9 := by
          rcases hd with h | h
          · exact h
          · have h3 := putL_len 9 (zig n) (by have := zig_lt hn; omega)
            have h4 := congrArg List.length HP.out
            rw [h, putL_small (m := 0) (by omega)] at h4
            simp at h4; omega
        have hb := byteVal_of (show m < 256 by omega)
        have ho5 : (wr.alloc (.cells #[.int .u8 (m : Int)] 5)).ownsRow w.heap.size 5 1 (.slice bo ds.length bc) ds.length (ds.map byteVal) := own_eq O.out fun i hi => heap_alloc_lt _ (own_lt O.out hi).2
        have hf5 := F.out.alloc (.cells #[.int .u8 (m : Int)] 5)
        have hc5 := cell_alloc_new wr #[.int .u8 (m : Int)] 5 0
        have O5 := Lib.hid ho5
        have F5 := Lib.hid hf5
        have C5 := Lib.hid hc5
        have HB := Lib.hid hb
        have HLT := Lib.hid (putL_small hlt)
        clear hd9 hd hm ho5 hf5 hc5 hb
        go_wp2_with (at_builtin; refine wpList_append_own2 _ rfl (.tmp 27) (.tmp 30) 81 rfl w.heap.size 5 i (.int .u8 0) 1 1 Try.underlying81 hi hz h1 h2 rfl (by decide) (.slice bo ds.length bc) ds.length (ds.map byteVal) rfl O5.out ⟨wr.heap.size, 0, none⟩ 1 1 [byteVal (dig m)] rfl rfl ?c1 ?c2 ?c3 ?c4 ?c5 ?_)
        case c1 =>
          intro j u hj
          match j, hj with
          | 0, hj => simp at hj; subst hj; rw [HB.out, add_lit]; exact C5.out
          | j + 1, hj => simp at hj
        case c2 => intro u hu; simp at hu; subst hu; rfl
        case c3 => unfold maxLen; omega
        case c4 => omega
        case c5 => exact F5.out.size
        intro v7 w7 ho7 hg7 hb7
        have hf7 : Fr (fun _ => False) w w7 := F5.out.grown hg7 fun k hk => .inr (own_lt O5.out hk).1
        have hl7 : ds.map byteVal ++ [byteVal (dig m)] = (ds ++ [dig m]).map byteVal := by simp
        rw [hl7] at ho7
        obtain ⟨og, cg, rfl, hat⟩ := own_at ho7
        obtain ⟨gg, rfl, -, -, hcell⟩ := hat (by omega)
        have hconv := run_convert_bytes_back (P := Try.prog) w7 81 9 5 ⟨gg, 0, none⟩ cg (ds ++ [dig m]) Try.underlying81 Try.underlying5 Try.underlying9 (fun j hj => by
          rw [add_lit]
          refine hcell j _ ?_
          rw [List.getElem?_map, List.getElem?_eq_getElem hj]; rfl)
        rw [List.length_append, List.length_cons, List.length_nil] at hconv
        have hS : putS n = ⟨(ds ++ [dig m]).toArray⟩ := by unfold putS; rw [HP.out, HLT.out]
        have HS := Lib.hid hS
        have F7 := Lib.hid hf7
        clear ho7 hg7 hb7 hf7 hl7 hat hcell hS
        go_wp2_with fail
        go_ret
        exact ⟨by rw [HS.out]; rfl, F7.out⟩
      · have hd8 := hd9 hge
        have hm64 : m < 18446744073709551616 := by
          have : m * 1 ≤ m * 128 ^ ds.length := Nat.mul_le_mul_left _ (Nat.pow_pos (by omega))
          omega
        have hb : byteVal (dig (m % 128 + 128)) = .int .u8 ((m : Int) % 128 + 128) := by
          rw [byteVal_of (by omega)]; congr 1
        have ho5 : (wr.alloc (.cells #[.int .u8 ((m : Int) % 128 + 128)] 5)).ownsRow w.heap.size 5 1 (.slice bo ds.length bc) ds.length (ds.map byteVal) := own_eq O.out fun i hi => heap_alloc_lt _ (own_lt O.out hi).2
        have hf5 := F.out.alloc (.cells #[.int .u8 ((m : Int) % 128 + 128)] 5)
        have hc5 := cell_alloc_new wr #[.int .u8 ((m : Int) % 128 + 128)] 5 0
        have O5 := Lib.hid ho5
        have F5 := Lib.hid hf5
        have C5 := Lib.hid hc5
        have HB := Lib.hid hb
        have HBIG := Lib.hid (putL_big hge)
        clear hd9 hd hm ho5 hf5 hc5 hb
        go_wp2_with (at_builtin; refine wpList_append_own2 _ rfl (.tmp 18) (.tmp 23) 81 rfl w.heap.size 5 i (.int .u8 0) 1 1 Try.underlying81 hi hz h1 h2 rfl (by decide) (.slice bo ds.length bc) ds.length (ds.map byteVal) rfl O5.out ⟨wr.heap.size, 0, none⟩ 1 1 [byteVal (dig (m % 128 + 128))] rfl rfl ?c1 ?c2 ?c3 ?c4 ?c5 ?_)
        case c1 =>
          intro j u hj
          match j, hj with
          | 0, hj => simp at hj; subst hj; rw [HB.out, add_lit]; exact C5.out
          | j + 1, hj => simp at hj
        case c2 => intro u hu; simp at hu; subst hu; rfl
        case c3 => unfold maxLen; omega
        case c4 => omega
        case c5 => exact F5.out.size
        intro v7 w7 ho7 hg7 hb7
        have hf7 : Fr (fun _ => False) w w7 := F5.out.grown hg7 fun k hk => .inr (own_lt O5.out hk).1
        have hl7 : ds.map byteVal ++ [byteVal (dig (m % 128 + 128))] = (ds ++ [dig (m % 128 + 128)]).map byteVal := by simp
        have hl8 : ds.length + 1 = (ds ++ [dig (m % 128 + 128)]).length := by simp
        rw [hl7, hl8] at ho7
        have O7 := Lib.hid ho7
        have F7 := Lib.hid hf7
        clear ho7 hg7 hb7 hf7 hl7 hl8
        go_wp2_with fail
        go_roundw
        case rel =>
          refine ⟨m / 128, ds ++ [dig (m % 128 + 128)], by go_num, ?_, by rw [HP.out, HBIG.out]; simp, O7.out, F7.out⟩
          have h9 := HM.out
          have h8 : m / 128 * 128 ≤ m := Nat.div_mul_le_self _ _
          have h7 : m / 128 * 128 * 128 ^ ds.length ≤ m * 128 ^ ds.length := Nat.mul_le_mul_right _ h8
          rw [List.length_append, List.length_cons, List.length_nil, Nat.zero_add, Nat.pow_succ, Nat.mul_comm (128 ^ ds.length) 128, ← Nat.mul_assoc]
          omega
        case measure => simp [intOf]; omega
def textS (s : ByteArray) : ByteArray := putS s.size ++ s
theorem len_wf {n : Nat} (h : n ≤ 1000000000) : (Lit.int .i64 (n : Int)).wf = true := by
  simp [Lit.wf, IntKind.min, IntKind.max, IntKind.signed, IntKind.bits]; omega
theorem textS_size {s : ByteArray} (h : s.size ≤ 1000000000) : (textS s).size ≤ 10 + s.size := by
  have := putS_size (len_wf h)
  unfold textS
  rw [ByteArray.size_append]
  omega

set_option maxHeartbeats 4000000 in
theorem rtext_walk (s : ByteArray) (w : World) (hs : s.size ≤ 1000000000) :
    Calls Try.prog 54 #[.string s] w fun e w' => e = .returned (.string (textS s)) ∧ Fr (fun _ => False) w w' := by
  have hp := putS_size (len_wf hs)
  go_enter Try.func54, Try.ntmps54
  go_wp2_with fail
  refine (rput_walk _ _ (len_wf hs)).mono ?_
  rintro e w2 ⟨rfl, hf⟩
  go_wp2_with fail
  go_ret
  exact ⟨rfl, hf⟩

end Go.Proofs.Ytdgdhegbcjimbaa
