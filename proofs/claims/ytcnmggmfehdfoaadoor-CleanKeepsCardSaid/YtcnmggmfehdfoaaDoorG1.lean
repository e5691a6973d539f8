/- What Clean leaves is good; CleanOne: the walk. -/
import Derived.Test.YtcnmggmfehdfoaaDoorL5
import Derived.Test.YtcnmggmfehdfoaaDoorV1
import Derived.Test.YtcnmggmfehdfoaaDoorS1
namespace Go.Proofs.YtcnmggmfehdfoaaDoor
open Go.RowKit Go.Fm Go.BigFrame
set_option linter.unusedVariables false
set_option linter.unusedSimpArgs false

theorem keptTo_mem {f : ByteArray → Option (Nat × Nat)} {before : Int} {i : Nat} {hi : Bool} {rs : List Rec} {r : Rec} : ∀ {k : Nat}, r ∈ keptTo f before i hi rs k → r ∈ rs
  | 0, h => by simp [keptTo] at h
  | k + 1, h => by
    simp only [keptTo] at h
    split at h
    · rename_i r' hr'
      split at h
      · rcases List.mem_append.1 h with h | h
        · exact keptTo_mem h
        · simp at h; subst h; exact List.mem_of_getElem? hr'
      · exact keptTo_mem h
    · exact keptTo_mem h
theorem cleanTo_mem {f : ByteArray → Option (Nat × Nat)} {g : Int → Option Nat} {upto before : Int} {l : List Bat} {c : Bat} : ∀ {k : Nat}, c ∈ cleanTo f g upto before l k → ∃ (i : Nat) (b : Bat), l[i]? = some b ∧ c = { b with recs := keptOf f upto before i b }
  | 0, h => by simp [cleanTo] at h
  | k + 1, h => by
    simp only [cleanTo] at h
    split at h
    · rename_i b hb
      split at h
      · rcases List.mem_append.1 h with h | h
        · exact cleanTo_mem h
        · simp at h; exact ⟨k, b, hb, h⟩
      · exact cleanTo_mem h
    · exact cleanTo_mem h
theorem keptOf_len (f : ByteArray → Option (Nat × Nat)) (upto before : Int) (i : Nat) (b : Bat) : (keptOf f upto before i b).length ≤ b.recs.length := keptTo_len _ _ _ _ _ _
theorem clean_good {f : ByteArray → Option (Nat × Nat)} {g : Int → Option Nat} {upto before : Int} {l : List Bat} (h : GoodL l) : GoodL (cleanTo f g upto before l l.length) := by
  refine ⟨Nat.le_trans (cleanTo_len _ _ _ _ _ _) h.len, fun c hc => ?_⟩
  obtain ⟨i, b, hb, rfl⟩ := cleanTo_mem hc
  have hg := h.bats b (List.mem_of_getElem? hb)
  exact ⟨Nat.le_trans (keptOf_len _ _ _ _ _) hg.len, fun r hr => hg.recs r (keptTo_mem hr), hg.base, hg.span, hg.prod⟩
theorem good_of_few {l : List Bat} (h : Few l) (hp : ∀ b ∈ l, (Lit.int .i64 b.prod).wf = true) : GoodL l :=
  ⟨h.len, fun b hb => ⟨(h.bats b hb).small.len, fun r hr => ⟨((h.bats b hb).small.recs r hr).2.1, ((h.bats b hb).small.recs r hr).1, ((h.bats b hb).recs r hr).1, ((h.bats b hb).recs r hr).2⟩,
    ⟨(h.bats b hb).base0, (h.bats b hb).base1⟩, ⟨(h.bats b hb).span0, (h.bats b hb).span1⟩, hp b hb⟩⟩
theorem same_good (K K' : Nat → Prop) (l : List Bat) (v v' : Value) (w : World) (h : BatsR K w v l) (h' : BatsR K' w v' l) (hg : GoodL l) :
    Calls Tryd.prog 12 #[v, v'] w fun e w' => e = .returned (.bool true) ∧ Fr (fun _ => False) w w' :=
  same_bats K K' l v v' w h h' (by have := hg.len; omega) fun b hb => ⟨by have := (hg.bats b hb).len; omega, fun r hr => by have := ((hg.bats b hb).recs r hr).2.1; omega⟩

/-- The answer is true; what was there stands. -/
def TruePost (w : World) (e : Ending) (w' : World) : Prop := e = .returned (.bool true) ∧ Fr (fun _ => False) w w'

set_option maxRecDepth 100000 in
set_option maxHeartbeats 16000000 in
theorem one_walk (K : Nat → Prop) (l : List Bat) (upto before : Int) (key : ByteArray) (v : Value) (w : World) (h : BatsR K w v l) (hp : ∀ b ∈ l, (Lit.int .i64 b.prod).wf = true) (hk0 : key.size ≤ maxLen) :
    Calls Tryd.prog 3 #[.agg #[v, .int .i64 upto, .int .i64 before, .string key]] w (TruePost w) := by
  obtain ⟨oa, cap, rfl, -⟩ := id h
  have hf0 := (Fr.same w).alloc (.cells #[.slice oa l.length cap, .int .i64 upto, .int .i64 before, .string key] 24)
  have c0 : (w.alloc (.cells #[.slice oa l.length cap, .int .i64 upto, .int .i64 before, .string key] 24)).cell? ⟨w.heap.size, 0, none⟩ = some (.slice oa l.length cap) := cell_alloc_new w _ 24 0
  have c1 : (w.alloc (.cells #[.slice oa l.length cap, .int .i64 upto, .int .i64 before, .string key] 24)).cell? ⟨w.heap.size, 1, none⟩ = some (.int .i64 upto) := cell_alloc_new w _ 24 1
  have c2 : (w.alloc (.cells #[.slice oa l.length cap, .int .i64 upto, .int .i64 before, .string key] 24)).cell? ⟨w.heap.size, 2, none⟩ = some (.int .i64 before) := cell_alloc_new w _ 24 2
  have c3 : (w.alloc (.cells #[.slice oa l.length cap, .int .i64 upto, .int .i64 before, .string key] 24)).cell? ⟨w.heap.size, 3, none⟩ = some (.string key) := cell_alloc_new w _ 24 3
  have H0 := Lib.hid h
  have HP := Lib.hid hp
  clear h hp
  go_enter Tryd.func3, Tryd.ntmps3
  go_wp2_with fail
  generalize (w.alloc (.cells #[.slice oa l.length cap, .int .i64 upto, .int .i64 before, .string key] 24)) = W0 at *
  go_quiet (fail)
  have F1 := Lib.hid (hf0.drewN nq)
  have HB1 := Lib.hid (H0.out.old F1.out)
  clear c0 c1 c2 c3 hf0
  generalize W0.drewN nq = W1 at *
  clear W0
  go_wp2_with fail
  refine (few_walk K l _ _ HB1.out).mono ?_
  rintro e w2 ⟨c, rfl, hc, hf2⟩
  have F2 := Lib.hid (F1.out.tr hf2)
  have HB2 := Lib.hid (HB1.out.old hf2)
  clear hf2
  cases c with
  | false =>
    clear hc
    go_wp2_with fail
    refine (live_walk _).mono ?_
    rintro e w3 ⟨rfl, hf3⟩
    have F3 := Lib.hid (F2.out.tr hf3)
    clear hf3
    go_wp2_with fail
    go_ret
    exact ⟨rfl, F3.out⟩
  | true =>
    have hg := good_of_few (hc rfl) HP.out
    have G := Lib.hid hg
    have hl8 := hg.len
    have GC := Lib.hid (clean_good (f := keysTo l l.length) (g := ownersTo l l.length) (upto := upto) (before := before) hg)
    obtain ⟨oa', cap', he, hcl⟩ := id HB2.out
    injection he with he1 he2 he3
    subst he1 he3
    have HCL := Lib.hid hcl
    clear hc hg hcl he2
    go_wp2_with fail
    go_loopw [7, 8] (fun o i wr => ∃ k : Nat, i = .int .i64 k ∧ k ≤ l.length ∧ OwnBats (fun b => w2.heap.size ≤ b) w2.heap.size wr o (l.take k) ∧ Fr (fun _ => False) w2 wr) (fun _ i _ => l.length - (intOf i).toNat)
    case atStart => exact ⟨0, rfl, Nat.zero_le _, OwnBats.nil _ _ _, Fr.same _⟩
    case round =>
      obtain ⟨k, rfl, hk, ho, hf⟩ := hrel
      have O := Lib.hid ho
      have F := Lib.hid hf
      clear ho hf
      obtain ⟨oo, ocap, hoo⟩ := O.out.slice
      rw [List.length_take_of_le hk] at hoo
      subst hoo
      rcases Nat.lt_or_ge k l.length with hlt | hge
      · obtain ⟨x, hx⟩ := get_of_lt hlt
        obtain ⟨a, rv, rfl, -, hcx, hr⟩ := HCL.out k x hx
        have HX := Lib.hid hx
        have hgx := G.out.bats x (List.mem_of_getElem? hx)
        have HGX := Lib.hid hgx
        have hlen50 := hgx.len
        have hr1 := hr.old F.out
        obtain ⟨ra, rcap, rfl, -⟩ := hr
        obtain ⟨c0, c1, c2, c3, c4, c5⟩ := hcx.to (F.out.block _ hcx.lt fun h => h)
        have HR := Lib.hid hr1
        clear hx hcx hgx hr1
        go_wp2_with fail
        refine (copy_bat K x _ _ HR.out (by omega) (fun r hr => by have := (HGX.out.recs r hr).2.1; omega)).mono ?_
        rintro e w3 ⟨rv2, rfl, hr3, hf3⟩
        have ha : ∀ j, (w3.alloc (.cells (batCells x rv2).toArray 29)).cell? ⟨w3.heap.size, j, none⟩ = (batCells x rv2).toArray[j]? := fun j => cell_alloc_new w3 _ 29 j
        have hf4 := hf3.alloc (.cells (batCells x rv2).toArray 29)
        have hr4 := hr3.old ((Fr.same w3).alloc (.cells (batCells x rv2).toArray 29))
        have HA := Lib.hid ha
        have HR4 := Lib.hid hr4
        have HF := Lib.hid hf4
        clear c0 c1 c2 c3 c4 c5 hr3 hf3 ha hr4 hf4
        unfold batV
        go_wp2_with (at_builtin; refine wpList_push_bat _ rfl (.tmp 32) (.tmp 38) rfl (fun b => w2.heap.size ≤ b) w2.heap.size (.slice oo k ocap) (l.take k) rfl (O.out.old HF.out) w3.heap.size 1 rfl x rv2 HA.out ?c1 (recs_one HR4.out) ?c2 ?c3 ?_)
        case c1 => exact HR4.out.mono fun b hb _ => ⟨Nat.le_trans F.out.size hb, fun e => by have := (O.out.lt e).2; omega⟩
        case c2 => rw [List.length_take_of_le hk]; omega
        case c3 => exact Nat.le_trans F.out.size HF.out.size
        intro v4 w4 ho4 hg4 hb4
        have hf4 : Fr (fun _ => False) w2 w4 := (F.out.tr HF.out).grown hg4 fun k hk => .inr (O.out.lt hk).1
        rw [← take_snoc HX.out] at ho4
        have F4 := Lib.hid hf4
        have O4 := Lib.hid ho4
        clear hf4 ho4 hg4 hb4
        go_wp2_with fail
        go_roundw
        case rel => exact ⟨k + 1, by go_num, by omega, O4.out, F4.out⟩
        case measure => simp [intOf]; omega
      · have hown : BatsR (fun b => w2.heap.size ≤ b) wr (.slice oo k ocap) l := by
          have := O.out
          rw [List.take_of_length_le hge] at this
          exact this.reads (fun b hb _ => hb) fun b hb _ => hb
        have OW := Lib.hid hown
        have HW := Lib.hid (HB2.out.old F.out)
        have FW := Lib.hid (F2.out.tr F.out)
        clear hown
        go_wp2_with fail
        refine (clean_walk _ l upto before _ _ OW.out G.out).mono ?_
        rintro e w3 ⟨va, rfl, ha3, hf3⟩
        have HA3 := Lib.hid ha3
        have OW3 := Lib.hid (OW.out.old hf3)
        have HW3 := Lib.hid (HW.out.old hf3)
        have FW3 := Lib.hid (FW.out.tr hf3)
        clear ha3 hf3
        go_wp2_with fail
        refine (latest_walk _ l key _ _ OW3.out G.out hk0).mono ?_
        rintro e w4 ⟨rfl, hf4⟩
        have HA4 := Lib.hid (HA3.out.old hf4)
        have OW4 := Lib.hid (OW3.out.old hf4)
        have HW4 := Lib.hid (HW3.out.old hf4)
        have FW4 := Lib.hid (FW3.out.tr hf4)
        clear hf4
        go_wp2_with fail
        refine (rlatest_walk K l key _ _ HW4.out G.out).mono ?_
        rintro e w5 ⟨rfl, hf5⟩
        rw [latTo_eq]
        have HA5 := Lib.hid (HA4.out.old hf5)
        have OW5 := Lib.hid (OW4.out.old hf5)
        have HW5 := Lib.hid (HW4.out.old hf5)
        have FW5 := Lib.hid (FW4.out.tr hf5)
        clear hf5
        generalize latOf l l.length key = p at *
        obtain ⟨px, pis⟩ := p
        go_wp2_with fail
        refine (same_good _ K l _ _ _ OW5.out HW5.out G.out).mono ?_
        rintro e w6 ⟨rfl, hf6⟩
        have HA6 := Lib.hid (HA5.out.old hf6)
        have HW6 := Lib.hid (HW5.out.old hf6)
        have FW6 := Lib.hid (FW5.out.tr hf6)
        clear hf6
        go_wp2_with fail
        refine (rclean_walk K l upto before _ _ HW6.out G.out).mono ?_
        rintro e w7 ⟨vb, rfl, hb7, hf7⟩
        have HA7 := Lib.hid (HA6.out.old hf7)
        have HB7 := Lib.hid hb7
        have FW7 := Lib.hid (FW6.out.tr hf7)
        clear hf7 hb7
        go_wp2_with fail
        refine (same_good _ _ _ _ _ _ HA7.out HB7.out GC.out).mono ?_
        rintro e w8 ⟨rfl, hf8⟩
        have FW8 := Lib.hid (FW7.out.tr hf8)
        clear hf8
        go_wp2_with fail
        refine (live_walk _).mono ?_
        rintro e w9 ⟨rfl, hf9⟩
        have FW9 := Lib.hid (FW8.out.tr hf9)
        clear hf9
        go_wp2_with fail
        go_ret
        exact ⟨rfl, FW9.out⟩
end Go.Proofs.YtcnmggmfehdfoaaDoor
