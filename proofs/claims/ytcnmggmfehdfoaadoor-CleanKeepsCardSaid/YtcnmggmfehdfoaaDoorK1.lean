/- row, find: the walks. -/
import Derived.Test.YtcnmggmfehdfoaaDoorP5
import Derived.Test.YtcnmggmfehdfoaaDoorK0
namespace Go.Proofs.YtcnmggmfehdfoaaDoor
open Go.RowKit Go.Fm Go.BigFrame
set_option linter.unusedVariables false
set_option linter.unusedSimpArgs false

structure RowL (l : List Bat) : Prop where
  ok : ∀ b ∈ l, BatOK b
  apart : l.Pairwise fun b c => b.base + b.span ≤ c.base
def RowPost (w : World) (n : Nat) (e : Ending) (w' : World) : Prop := ∃ v all, e = .returned v ∧ BatsR (fun b => w.heap.size ≤ b) w' v all ∧ RowL all ∧ all.length ≤ n ∧ Fr (fun _ => False) w w'

set_option maxRecDepth 100000 in
set_option maxHeartbeats 8000000 in
theorem row_walk (K : Nat → Prop) (l : List Bat) (v : Value) (w : World) (h : BatsR K w v l) (hl : l.length ≤ 8) (hs : ∀ b ∈ l, b.recs.length ≤ 50 ∧ ∀ r ∈ b.recs, r.hs.length ≤ 12) :
    Calls Tryd.prog 14 #[v] w (RowPost w l.length) := by
  obtain ⟨oa, cap, rfl, hcl⟩ := h
  have H := Lib.hid hcl
  have HS := Lib.hid hs
  clear hcl hs
  go_enter Tryd.func14, Tryd.ntmps14
  go_wp2_with fail
  go_loopw [3, 4, 5] (fun o av i wr => ∃ (k : Nat) (out : List Bat) (at' : Int), i = .int .i64 k ∧ av = .int .i64 at' ∧ k ≤ l.length ∧ out.length ≤ k ∧ (0 ≤ at' ∧ at' ≤ 50 * k) ∧ (∀ b ∈ out, b.base + b.span ≤ at') ∧ RowL out ∧ OwnBats (fun b => w.heap.size ≤ b) w.heap.size wr o out ∧ Fr (fun _ => False) w wr) (fun _ _ i _ => l.length - (intOf i).toNat)
  case atStart => exact ⟨0, [], 0, rfl, rfl, Nat.zero_le _, Nat.le_refl _, by omega, by simp, ⟨by simp, by simp⟩, OwnBats.nil _ _ _, Fr.same _⟩
  case round =>
    obtain ⟨k, out, at', rfl, rfl, hk, hout, ⟨ha0, ha1⟩, hend, hrow, ho, hf⟩ := hrel
    have O := Lib.hid ho
    have F := Lib.hid hf
    have HEND := Lib.hid hend
    have HROW := Lib.hid hrow
    clear ho hf hend hrow
    obtain ⟨oo, ocap, rfl⟩ := O.out.slice
    generalize hn : out.length = n at *
    have HN := Lib.hid hn
    clear hn
    rcases Nat.lt_or_ge k l.length with hlt | hge
    · obtain ⟨x, hx⟩ := get_of_lt hlt
      obtain ⟨a, rv, rfl, -, hc, hr⟩ := H.out k x hx
      obtain ⟨hx50, hx12⟩ := HS.out x (List.mem_of_getElem? hx)
      have HX12 := Lib.hid hx12
      have hr1 := hr.old F.out
      have HR := Lib.hid hr1
      obtain ⟨ra, rcap, rfl, -⟩ := hr
      obtain ⟨c0, c1, c2, c3, c4, c5⟩ := hc.to (F.out.block _ hc.lt fun h => h)
      clear hx hc hr1 hx12
      go_wp2_with fail
      refine (copy_bat K x _ _ HR.out (by omega) (fun r hr => by have := HX12.out r hr; omega)).mono ?_
      rintro e w2 ⟨rv2, rfl, hr2, hf2⟩
      obtain ⟨rb, rcap2, hrv2, -⟩ := id hr2
      subst hrv2
      have HW2 := Lib.hid hf2.size
      have hf3 := hf2.alloc (.cells #[.int .i64 at', .int .i64 x.span, .int .i64 x.prod, .int .i64 x.epoch, .int .i64 x.seq, .slice rb x.recs.length rcap2] 29)
      have hA3 := heap_alloc_self w2 (.cells #[.int .i64 at', .int .i64 x.span, .int .i64 x.prod, .int .i64 x.epoch, .int .i64 x.seq, .slice rb x.recs.length rcap2] 29)
      have hr3 := hr2.old ((Fr.same w2).alloc (.cells #[.int .i64 at', .int .i64 x.span, .int .i64 x.prod, .int .i64 x.epoch, .int .i64 x.seq, .slice rb x.recs.length rcap2] 29))
      have F3 := Lib.hid hf3
      have A3 := Lib.hid hA3
      have R3 := Lib.hid hr3
      unfold batV
      clear c0 c1 c2 c3 c4 c5 hr2 hf2 hf3 hA3 hr3
      go_wp2_with fail
      refine (bcheck_walk (fun b => wr.heap.size ≤ b) { x with base := at' } _ _ R3.out).mono ?_
      rintro e w4 ⟨c, rfl, hcc, hf4⟩
      have F4 := Lib.hid (F3.out.tr hf4)
      have A4 := Lib.hid ((hf4.block w2.heap.size (by simp) fun h => h).trans A3.out)
      have R4 := Lib.hid (R3.out.old hf4)
      have dd := fun j => cell_of A4.out j
      clear hf4
      rcases hcc with ⟨rfl, hok⟩ | ⟨rfl, -⟩
      · have HOK := Lib.hid hok
        have hs0 := hok.span0
        have hs1 := hok.span1
        have hf5 := F4.out.alloc (.cells #[.int .i64 at', .int .i64 x.span, .int .i64 x.prod, .int .i64 x.epoch, .int .i64 x.seq, .slice rb x.recs.length rcap2] 29)
        have hac : ∀ j, (w4.alloc (.cells #[.int .i64 at', .int .i64 x.span, .int .i64 x.prod, .int .i64 x.epoch, .int .i64 x.seq, .slice rb x.recs.length rcap2] 29)).cell? ⟨w4.heap.size, j, none⟩ = (batCells { x with base := at' } (.slice rb x.recs.length rcap2)).toArray[j]? := fun j => cell_alloc_new w4 _ 29 j
        have hr5 := R4.out.old ((Fr.same w4).alloc (.cells #[.int .i64 at', .int .i64 x.span, .int .i64 x.prod, .int .i64 x.epoch, .int .i64 x.seq, .slice rb x.recs.length rcap2] 29))
        have F5 := Lib.hid hf5
        have AC := Lib.hid hac
        have R5 := Lib.hid hr5
        clear hok hf5 hac hr5
        dsimp only at hs0 hs1
        go_wp2_with (at_builtin; refine wpList_push_bat _ rfl (.tmp 23) (.tmp 25) rfl (fun b => w.heap.size ≤ b) w.heap.size _ out rfl (O.out.old F5.out) w4.heap.size 1 rfl { x with base := at' } (.slice rb x.recs.length rcap2) AC.out ?c1 rfl ?c2 ?c3 ?_)
        case c1 => exact R5.out.mono fun b hb _ => ⟨Nat.le_trans F.out.size hb, fun e => by have := (O.out.lt e).2; omega⟩
        case c2 => rw [HN.out]; omega
        case c3 => exact Nat.le_trans F.out.size F5.out.size
        intro v8 w8 ho8 hg8 hb8
        have hf8 : Fr (fun _ => False) w w8 := (F.out.tr F5.out).grown hg8 fun k hk => .inr (O.out.lt hk).1
        have hne : some w2.heap.size ≠ (Value.slice oo n ocap).ownBlock := fun e => by
          have h6 := (O.out.lt e.symm).2
          have h7 := HW2.out
          omega
        have A8 := (hg8.block w2.heap.size (by have := lt_of_heap A4.out; simp; omega) hne).trans ((heap_alloc_lt _ (lt_of_heap A4.out)).trans A4.out)
        have dd8 := fun j => cell_of A8 j
        have F8 := Lib.hid hf8
        have O8 := Lib.hid ho8
        clear ho8 hg8 hb8 hf8 dd
        go_wp2_with fail
        go_roundw
        case rel =>
          refine ⟨k + 1, out ++ [{ x with base := at' }], at' + x.span, by go_num, by go_num, by omega, by simp [HN.out]; omega, by omega, ?_, ⟨?_, ?_⟩, O8.out, F8.out⟩
          · intro b hb
            rcases List.mem_append.1 hb with h | h
            · have := HEND.out b h; omega
            · simp at h; subst h; exact Int.le_refl _
          · intro b hb
            rcases List.mem_append.1 hb with h | h
            · exact HROW.out.ok b h
            · simp at h; subst h; exact HOK.out
          · refine List.pairwise_append.2 ⟨HROW.out.apart, List.pairwise_singleton _ _, fun b hb c hc => ?_⟩
            simp at hc; subst hc
            exact HEND.out b hb
        case measure => simp [intOf]; omega
      · go_wp2_with fail
        go_roundw
        case rel => exact ⟨k + 1, out, at', by go_num, rfl, by omega, by rw [HN.out]; omega, by omega, HEND.out, HROW.out, O.out.old F4.out, F.out.tr F4.out⟩
        case measure => simp [intOf]; omega
    · go_wp2_with fail
      go_ret
      exact ⟨_, out, rfl, O.out.reads (fun b hb _ => hb) fun b hb _ => hb, HROW.out, by rw [HN.out]; omega, F.out⟩

def zeroR : Rec := ⟨0, 0, false, ByteArray.empty, false, ByteArray.empty, []⟩
def FindPost (w : World) (l : List Bat) (x : Int) (e : Ending) (w' : World) : Prop :=
  ∃ (r : Rec) (hv : Value) (c : Bool), e = .returned (.tuple #[recV r hv, .bool c]) ∧ (c = true → ∃ i k b, At l i k b r ∧ b.base + r.at' = x) ∧ (c = false → ∀ i k b r, At l i k b r → b.base + r.at' ≠ x) ∧ (∃ oh n cap, hv = .slice oh n cap) ∧ Fr (fun _ => False) w w'

set_option maxRecDepth 100000 in
set_option maxHeartbeats 8000000 in
theorem find_walk (K : Nat → Prop) (l : List Bat) (x : Int) (v : Value) (w : World) (h : BatsR K w v l) (hg : GoodL l) :
    Calls Tryd.prog 15 #[v, .int .i64 x] w (FindPost w l x) := by
  obtain ⟨oa, cap, rfl, hcl⟩ := h
  have H := Lib.hid hcl
  have G := Lib.hid hg
  have hl8 := hg.len
  have hf0 := (Fr.same w).alloc (.cells #[.int .i64 0, .int .i64 0, .bool false, .string ⟨#[]⟩, .bool false, .string ⟨#[]⟩, .slice none 0 0] 39)
  have hA0 := heap_alloc_self w (.cells #[.int .i64 0, .int .i64 0, .bool false, .string ⟨#[]⟩, .bool false, .string ⟨#[]⟩, .slice none 0 0] 39)
  have F0 := Lib.hid hf0
  have A0 := Lib.hid hA0
  clear hcl hg hf0 hA0
  go_enter Tryd.func15, Tryd.ntmps15
  go_wp2_with fail
  generalize (w.alloc (.cells #[.int .i64 0, .int .i64 0, .bool false, .string ⟨#[]⟩, .bool false, .string ⟨#[]⟩, .slice none 0 0] 39)) = W0 at *
  go_loopw [6] (fun i wr => ∃ k : Nat, i = .int .i64 k ∧ k ≤ l.length ∧ (∀ i q b r, i < k → At l i q b r → b.base + r.at' ≠ x) ∧ Fr (fun _ => False) W0 wr) (fun i _ => l.length - (intOf i).toNat)
  case atStart => exact ⟨0, rfl, Nat.zero_le _, fun i q b r h => by omega, Fr.same _⟩
  case round =>
    obtain ⟨k, rfl, hk, hno, hf⟩ := hrel
    have F := Lib.hid hf
    have NO := Lib.hid hno
    clear hf hno
    rcases Nat.lt_or_ge k l.length with hlt | hge
    · obtain ⟨b, hb⟩ := get_of_lt hlt
      obtain ⟨a, rv, rfl, -, hc, hr⟩ := H.out k b hb
      obtain ⟨ra, rcap, rfl, hrr⟩ := hr
      have HRR := Lib.hid hrr
      have HX := Lib.hid hb
      have HC := Lib.hid hc
      have HG := Lib.hid (G.out.bats b (List.mem_of_getElem? hb))
      have hlen50 := HG.out.len
      obtain ⟨hb0, hb1⟩ := HG.out.base
      clear hb hrr hc
      go_wp2_with fail
      go_loopw [7] (fun i wr => ∃ q : Nat, i = .int .i64 q ∧ q ≤ b.recs.length ∧ (∀ q' r, q' < q → At l k q' b r → b.base + r.at' ≠ x) ∧ Fr (fun _ => False) W0 wr) (fun i _ => b.recs.length - (intOf i).toNat)
      case atStart => exact ⟨0, rfl, Nat.zero_le _, fun q' r h => by omega, F.out⟩
      case round =>
        obtain ⟨q, rfl, hq, hnq, hf⟩ := hrel
        have FQ := Lib.hid hf
        have NQ := Lib.hid hnq
        have c0 := FQ.out.cel (F0.out.cel HC.out.c0)
        have c5 := FQ.out.cel (F0.out.cel HC.out.c5)
        clear hf hnq
        rcases Nat.lt_or_ge q b.recs.length with hq1 | hq1
        · obtain ⟨y, hy⟩ := get_of_lt hq1
          obtain ⟨a2, hv, rfl, -, hcy, hhy⟩ := HRR.out q y hy
          obtain ⟨ha, hcap, rfl, -⟩ := hhy
          obtain ⟨-, -, ha0, ha1⟩ := HG.out.recs y (List.mem_of_getElem? hy)
          have AT := Lib.hid (show At l k q b y from ⟨HX.out, hy⟩)
          have HCY := Lib.hid hcy
          have e0 := FQ.out.cel (F0.out.cel hcy.c0)
          clear hy hcy
          by_cases hx : b.base + y.at' = x
          · have HEQ := Lib.hid hx
            have hx2 : x = b.base + y.at' := hx.symm
            clear hx
            subst hx2
            go_wp2_with fail
            go_quiet (fail)
            have FN := Lib.hid (FQ.out.drewN nq)
            generalize wr.drewN nq = W5 at *
            clear c0 c5 e0
            have c5 := FN.out.cel (F0.out.cel HC.out.c5)
            obtain ⟨e0, e1, e2, e3, e4, e5, e6⟩ := HCY.out.to ((F0.out.tr FN.out).block _ HCY.out.lt fun h => h)
            have A5 := (FN.out.block w.heap.size (lt_of_heap A0.out) fun h => h).trans A0.out
            have fz := fun j => fz_of A5 j
            have dd := fun j => cell_of A5 j
            go_wp2_with fail
            refine bodyPost_ret (v := .tuple #[recV y (.slice ha y.hs.length hcap), .bool true]) (by simp [results, Tryd.f15, go_sem, recV, dd]) rfl ⟨y, _, true, rfl, fun _ => ⟨k, q, b, AT.out, rfl⟩, fun h => (by cases h), ⟨_, _, _, rfl⟩, ?_⟩
            repeat' (refine Fr.setCell ?_ (.inr (by simp)) _)
            exact F0.out.tr FN.out
          · have HNE := Lib.hid hx
            go_wp2_with fail
            go_quiet (fail)
            have FN := Lib.hid (FQ.out.drewN nq)
            generalize wr.drewN nq = W5 at *
            clear c0 c5 e0
            go_wp2_with fail
            go_roundw
            case rel =>
              refine ⟨q + 1, by go_num, by omega, fun q' r h1 h2 => ?_, FN.out⟩
              by_cases e : q' = q
              · subst e
                have h3 := h2.2
                rw [AT.out.2] at h3
                injection h3 with h3
                subst h3
                exact HNE.out
              · exact NQ.out q' r (by omega) h2
            case measure => simp [intOf]; omega
        · go_wp2_with fail
          go_roundw
          case rel =>
            refine ⟨k + 1, by go_num, by omega, fun i q' b' r h1 h2 => ?_, FQ.out⟩
            by_cases e : i = k
            · subst e
              have h3 := h2.1
              rw [HX.out] at h3
              injection h3 with h3
              subst h3
              exact NQ.out q' r (by have := (List.getElem?_eq_some_iff.1 h2.2).1; omega) h2
            · exact NO.out i q' b' r (by omega) h2
          case measure => simp [intOf]; omega
    · have A5 := (F.out.block w.heap.size (lt_of_heap A0.out) fun h => h).trans A0.out
      have fz := fun j => fz_of A5 j
      have dd := fun j => cell_of A5 j
      go_wp2_with fail
      refine bodyPost_ret (v := .tuple #[recV zeroR (.slice none 0 0), .bool false]) (by simp [results, Tryd.f15, go_sem, recV, zeroR, dd]; rfl) rfl ⟨zeroR, _, false, rfl, fun h => (by cases h), fun _ i q b r h2 => NO.out i q b r (by have := (List.getElem?_eq_some_iff.1 h2.1).1; omega) h2, ⟨_, _, _, rfl⟩, ?_⟩
      repeat' (refine Fr.setCell ?_ (.inr (by simp)) _)
      exact F0.out.tr F.out
end Go.Proofs.YtcnmggmfehdfoaaDoor
