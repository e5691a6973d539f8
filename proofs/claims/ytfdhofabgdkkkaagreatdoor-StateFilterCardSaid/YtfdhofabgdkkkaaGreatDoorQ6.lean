/- What a number's bytes read as: the plain law that the two readers agree. -/
import Derived.Test.YtfdhofabgdkkkaaGreatDoorQ5
namespace Go.Proofs.YtfdhofabgdkkkaaGreatDoor
set_option linter.unusedVariables false
set_option linter.unusedSimpArgs false
def unzig (u : Nat) : Int := if u % 2 = 0 then ((u / 2 : Nat) : Int) else -((u / 2 : Nat) : Int) - 1
theorem zig_unzig (u : Nat) : zig (unzig u) = u := by
 unfold zig unzig
 split <;> split <;> omega
theorem unzig_wf {u : Nat} (h : u < 18446744073709551616) : (Lit.int .i64 (unzig u)).wf = true := by
 simp [Lit.wf, IntKind.min, IntKind.max, IntKind.signed, IntKind.bits]
 unfold unzig
 split <;> omega
/-- The bytes that are still to come, what has come, how many have come: the number, how many bytes, the error. -/
def getR : Nat → List UInt8 → Nat → Nat → Int × Nat × Int
 | 0, _, _, _ => (0, 0, 3)
 | _ + 1, [], _, _ => (0, 0, 2)
 | f + 1, b :: r, u, i =>
  if 128 ≤ b.toNat then getR f r (u + b.toNat % 128 * 128 ^ i) (i + 1)
  else if (b.toNat = 0 ∧ 0 < i) ∨ (i = 9 ∧ 1 < b.toNat) then (0, 0, 3)
  else (unzig (u + b.toNat * 128 ^ i), i + 1, 0)
def getV (l : List UInt8) : Int × Nat × Int := getR 10 l 0 0
/-- How many bytes go on, of at most n. -/
def lead : Nat → List UInt8 → Nat
 | 0, _ => 0
 | _ + 1, [] => 0
 | n + 1, b :: r => if 128 ≤ b.toNat then lead n r + 1 else 0
/-- What some bytes come to. -/
def val : List UInt8 → Nat
 | [] => 0
 | b :: r => b.toNat % 128 + 128 * val r
def refV (l : List UInt8) : Int × Nat × Int :=
 let k := lead 10 l
 if k = 10 then (0, 0, 3) else if l.length ≤ k then (0, 0, 2)
 else if putL (val (l.take (k + 1)) % 18446744073709551616) = l.take (k + 1) then (unzig (val (l.take (k + 1)) % 18446744073709551616), k + 1, 0) else (0, 0, 3)
theorem dig_toNat {k : Nat} (h : k < 256) : (dig k).toNat = k := by unfold dig; exact UInt8.toNat_ofNat_of_lt' h
theorem val_putL : ∀ m : Nat, val (putL m) = m := by
 intro m
 induction m using Nat.strongRecOn with
 | _ m ih =>
  by_cases h : m < 128
  ·rw [putL_small h]
   simp only [val, dig_toNat (show m < 256 by omega)]
   omega
  ·rw [putL_big (by omega)]
   simp only [val, dig_toNat (show m % 128 + 128 < 256 by omega), ih (m / 128) (by omega)]
   omega
theorem putL_last : ∀ m : Nat, 2 ≤ (putL m).length → ∀ b, (putL m).getLast? = some b → b.toNat ≠ 0 := by
 intro m
 induction m using Nat.strongRecOn with
 | _ m ih =>
  intro h2 b hb
  by_cases h : m < 128
  ·rw [putL_small h] at h2; simp at h2
  ·rw [putL_big (by omega)] at h2 hb
   by_cases h3 : m / 128 < 128
   ·rw [putL_small h3] at hb
    simp at hb
    subst hb
    rw [dig_toNat (by omega)]
    omega
   ·have hl : 2 ≤ (putL (m / 128)).length := by
     rw [putL_big (by omega)]
     have : 0 < (putL (m / 128 / 128)).length := by
      by_cases h4 : m / 128 / 128 < 128
      ·rw [putL_small h4]; simp
      ·rw [putL_big (by omega)]; simp
     simp; omega
    rw [List.getLast?_cons_of_ne_nil (by intro e; rw [e] at hl; simp at hl)] at hb
    exact ih (m / 128) (by omega) hl b hb
/-- Bytes that go on, and one that does not. -/
def Chain : List UInt8 → Prop
 | [] => False
 | [b] => b.toNat < 128
 | b :: r => 128 ≤ b.toNat ∧ Chain r
theorem u8_eq {a b : UInt8} (h : a.toNat = b.toNat) : a = b := UInt8.toNat_inj.1 h
theorem putL_val : ∀ bs : List UInt8, Chain bs → (∀ b, bs.getLast? = some b → b.toNat ≠ 0) → putL (val bs) = bs ∧ 0 < val bs
 | [], h, _ => h.elim
 | [b], h, h2 => by
  have h : b.toNat < 128 := h
  have h3 := h2 b rfl
  have e : val [b] = b.toNat := by simp only [val]; omega
  rw [e, putL_small h]
  exact ⟨by rw [u8_eq (a := dig b.toNat) (b := b) (dig_toNat (by omega))], by omega⟩
 | c :: d :: r, h, h2 => by
  obtain ⟨h1, h3⟩ : 128 ≤ c.toNat ∧ Chain (d :: r) := h
  obtain ⟨i1, i2⟩ := putL_val (d :: r) h3 (fun b hb => h2 b (by rw [List.getLast?_cons_cons]; exact hb))
  have hc := c.toNat_lt
  have e : val (c :: d :: r) = c.toNat % 128 + 128 * val (d :: r) := rfl
  rw [e, putL_big (by omega)]
  have e1 : (c.toNat % 128 + 128 * val (d :: r)) % 128 + 128 = c.toNat := by omega
  have e2 : (c.toNat % 128 + 128 * val (d :: r)) / 128 = val (d :: r) := by omega
  rw [e1, e2, i1]
  exact ⟨by rw [u8_eq (a := dig c.toNat) (b := c) (dig_toNat (by omega))], by omega⟩
theorem val_lt : ∀ bs : List UInt8, val bs < 128 ^ bs.length
 | [] => by simp [val]
 | b :: r => by
  have := val_lt r
  simp only [val, List.length_cons, Nat.pow_succ]
  omega
theorem val_last : ∀ (bs : List UInt8) (b : UInt8), b.toNat < 128 → val (bs ++ [b]) = val bs + b.toNat * 128 ^ bs.length
 | [], b, h => by simp only [val, List.nil_append, List.length_nil]; omega
 | c :: r, b, h => by
  have ih := val_last r b h
  simp only [List.cons_append, val, ih, List.length_cons, Nat.pow_succ, Nat.mul_add]
  rw [Nat.add_assoc]
  congr 2
  rw [Nat.mul_comm (128 ^ r.length) 128, ← Nat.mul_assoc, ← Nat.mul_assoc, Nat.mul_comm 128 b.toNat]
theorem val_snoc (bs : List UInt8) (b : UInt8) : val (bs ++ [b]) = val bs + b.toNat % 128 * 128 ^ bs.length := by
 induction bs with
 | nil => simp only [val, List.nil_append, List.length_nil]; omega
 | cons c r ih =>
  simp only [List.cons_append, val, ih, List.length_cons, Nat.pow_succ, Nat.mul_add]
  rw [Nat.add_assoc]
  congr 2
  rw [Nat.mul_comm (128 ^ r.length) 128, ← Nat.mul_assoc, ← Nat.mul_assoc, Nat.mul_comm 128 (b.toNat % 128)]
theorem chain_of : ∀ (pre : List UInt8) (b : UInt8), (∀ c ∈ pre, 128 ≤ c.toNat) → b.toNat < 128 → Chain (pre ++ [b])
 | [], b, _, h => h
 | [c], b, h1, h => ⟨h1 c (by simp), h⟩
 | c :: d :: r, b, h1, h => ⟨h1 c (by simp), chain_of (d :: r) b (fun x hx => h1 x (by simp at hx ⊢; right; exact hx)) h⟩
/-- The reader that goes on behind some bytes. -/
theorem getR_eq : ∀ (f : Nat) (pre l : List UInt8), pre.length + f = 10 → (∀ c ∈ pre, 128 ≤ c.toNat) → getR f l (val pre) pre.length = refV (pre ++ l)
 | 0, pre, l, hf, hp => by
  have h1 : ∀ (n : Nat) (p : List UInt8), p.length = n → (∀ c ∈ p, 128 ≤ c.toNat) → lead n (p ++ l) = n := by
   intro n
   induction n with
   | zero => intro p _ _; simp [lead]
   | succ n ih =>
    intro p hl hc
    match p, hl with
    | c :: r, hl =>
     simp only [List.cons_append, lead, hc c (by simp), if_true]
     rw [ih r (by simpa using hl) fun x hx => hc x (by simp [hx])]
  have h2 := h1 10 pre (by omega) hp
  simp only [getR, refV, h2, if_true]
 | f + 1, pre, [], hf, hp => by
  have h1 : ∀ (n : Nat) (p : List UInt8), p.length < n → (∀ c ∈ p, 128 ≤ c.toNat) → lead n p = p.length := by
   intro n
   induction n with
   | zero => intro p h _; omega
   | succ n ih =>
    intro p hl hc
    match p with
    | [] => rfl
    | c :: r =>
     simp only [lead, hc c (by simp), if_true]
     rw [ih r (by simpa using hl) fun x hx => hc x (by simp [hx])]
     rfl
  have h2 := h1 10 pre (by omega) hp
  simp only [getR, refV, List.append_nil, h2]
  rw [if_neg (by omega), if_pos (Nat.le_refl _)]
 | f + 1, pre, b :: r, hf, hp => by
  unfold getR
  by_cases hb : 128 ≤ b.toNat
  ·rw [if_pos hb]
   have ih := getR_eq f (pre ++ [b]) r (by simp; omega) (fun c hc => by rcases List.mem_append.1 hc with h | h; exact hp c h; simp at h; rw [h]; exact hb)
   rw [val_snoc, List.length_append, List.length_singleton] at ih
   rw [ih, List.append_assoc]
   rfl
  ·rw [if_neg hb]
   have h1 : ∀ (n : Nat) (p : List UInt8), p.length < n → (∀ c ∈ p, 128 ≤ c.toNat) → lead n (p ++ b :: r) = p.length := by
    intro n
    induction n with
    | zero => intro p h _; omega
    | succ n ih =>
     intro p hl hc
     match p with
     | [] => simp [lead, hb]
     | c :: q =>
      simp only [List.cons_append, lead, hc c (by simp), if_true]
      rw [ih q (by simpa using hl) fun x hx => hc x (by simp [hx])]
      rfl
   have h2 := h1 10 pre (by omega) hp
   have h3 : (pre ++ b :: r).take (pre.length + 1) = pre ++ [b] := by
    rw [List.take_append, List.take_of_length_le (by omega)]; simp
   have hch := chain_of pre b hp (by omega)
   have hk : ¬ pre.length = 10 := by omega
   have hl : ¬ (pre ++ b :: r).length ≤ pre.length := by simp
   simp only [refV, h2, h3, hk, hl, if_false]
   have hv := val_last pre b (by omega)
   have hvl := val_lt pre
   by_cases hbad : (b.toNat = 0 ∧ 0 < pre.length) ∨ (pre.length = 9 ∧ 1 < b.toNat)
   ·rw [if_pos hbad, if_neg]
    intro e
    rcases hbad with ⟨b0, b1⟩ | ⟨b0, b1⟩
    ·refine putL_last (val (pre ++ [b]) % 18446744073709551616) ?_ b ?_ b0
     ·rw [e]; simp; omega
     ·rw [e]; simp
    ·have hm := val_putL (val (pre ++ [b]) % 18446744073709551616)
     rw [e, hv, b0] at hm
     have : (128 : Nat) ^ 9 = 9223372036854775808 := by decide
     rw [this] at hm
     omega
   ·rw [if_neg hbad]
    have hlt : val (pre ++ [b]) < 18446744073709551616 := by
     by_cases h9 : pre.length = 9
     ·have : b.toNat ≤ 1 := by omega
      rw [h9] at hvl hv
      have e9 : (128 : Nat) ^ 9 = 9223372036854775808 := by decide
      rw [e9] at hvl hv
      rw [hv]
      have : b.toNat = 0 ∨ b.toNat = 1 := by omega
      rcases this with h | h <;> rw [h] <;> omega
     ·have h8 := val_lt (pre ++ [b])
      have : 128 ^ (pre ++ [b]).length ≤ 128 ^ 9 := Nat.pow_le_pow_right (by omega) (by simp; omega)
      have e9 : (128 : Nat) ^ 9 = 9223372036854775808 := by decide
      omega
    rw [Nat.mod_eq_of_lt hlt]
    have hput : putL (val (pre ++ [b])) = pre ++ [b] := by
     by_cases h0 : b.toNat = 0
     ·have hn : pre = [] := List.eq_nil_of_length_eq_zero (by omega)
      subst hn
      have e : val ([] ++ [b]) = 0 := by simp only [List.nil_append, val]; omega
      rw [e, putL_small (by omega)]
      simp only [List.nil_append]
      rw [u8_eq (a := dig 0) (b := b) (by rw [dig_toNat (by omega), h0])]
     ·exact (putL_val _ hch (fun c hc => by simp at hc; subst hc; exact h0)).1
    rw [if_pos hput, hv]
theorem getV_eq (l : List UInt8) : getV l = refV l := getR_eq 10 [] l rfl (by simp)
/-- What a text reads as from a place on: a number, the place behind, the error. -/
def getS (s : ByteArray) (at' : Int) : Int × Int × Int :=
 if at' < 0 ∨ (s.size : Int) < at' then (0, 0, 1)
 else if (getV (s.data.toList.drop at'.toNat)).2.2 = 0 then ((getV (s.data.toList.drop at'.toNat)).1, at' + (getV (s.data.toList.drop at'.toNat)).2.1, 0)
 else (0, 0, (getV (s.data.toList.drop at'.toNat)).2.2)
end Go.Proofs.YtfdhofabgdkkkaaGreatDoor
