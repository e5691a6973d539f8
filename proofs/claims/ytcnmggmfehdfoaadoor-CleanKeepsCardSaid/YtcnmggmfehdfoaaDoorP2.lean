/- Text, Check and Encode of a record: the walks. -/
import Derived.Test.YtcnmggmfehdfoaaDoorP1
import Derived.Test.YtcnmggmfehdfoaaDoorL4
namespace Go.Proofs.YtcnmggmfehdfoaaDoor
open Go.RowKit Go.Fm Go.BigFrame
set_option linter.unusedVariables false
set_option linter.unusedSimpArgs false

def textS (s : ByteArray) : ByteArray := putS s.size ++ s
theorem len_wf {n : Nat} (h : n ≤ 1000000000) : (Lit.int .i64 (n : Int)).wf = true := by
  simp [Lit.wf, IntKind.min, IntKind.max, IntKind.signed, IntKind.bits]; omega
theorem textS_size {s : ByteArray} (h : s.size ≤ 1000000000) : (textS s).size ≤ 10 + s.size := by
  have := putS_size (len_wf h)
  unfold textS
  rw [ByteArray.size_append]
  omega

set_option maxHeartbeats 4000000 in
theorem text_walk (s : ByteArray) (w : World) (hs : s.size ≤ 1000000000) :
    Calls Tryd.prog 49 #[.string s] w fun e w' => e = .returned (.string (textS s)) ∧ Fr (fun _ => False) w w' := by
  have hp := putS_size (len_wf hs)
  go_enter Tryd.func49, Tryd.ntmps49
  go_wp2_with fail
  refine (put_walk _ _ (len_wf hs)).mono ?_
  rintro e w2 ⟨rfl, hf⟩
  go_wp2_with fail
  go_ret
  exact ⟨rfl, hf⟩

def HdrOK (h : Hdr) : Prop := 1 ≤ h.key.size ∧ h.key.size ≤ 1000 ∧ h.val.size ≤ 1000
structure RecOK (r : Rec) : Prop where
  at0 : 0 ≤ r.at'
  at1 : r.at' ≤ 49
  tm0 : 0 ≤ r.tm
  tm1 : r.tm ≤ 1099511627776
  key : r.key.size ≤ 1000
  val : r.val.size ≤ 1000
  hs : r.hs.length ≤ 10
  bare : r.bare = true → r.key = ByteArray.empty
  gone : r.gone = true → r.val = ByteArray.empty
  both : ¬ (r.bare = true ∧ r.gone = true)
  hdrs : ∀ h ∈ r.hs, HdrOK h
def RCheckPost (w : World) (r : Rec) (e : Ending) (w' : World) : Prop := ∃ c : Int, e = .returned (.int .i64 c) ∧ ((c = 0 ∧ RecOK r) ∨ (c = 1 ∧ ¬ RecOK r)) ∧ Fr (fun _ => False) w w'

theorem empty_list {s : ByteArray} : s = ByteArray.empty ↔ s.toList = [] := (toList_nil_iff_emptyBytes s).symm

set_option maxRecDepth 100000 in
set_option maxHeartbeats 8000000 in
theorem rcheck_walk (K : Nat → Prop) (r : Rec) (hv : Value) (w : World) (h : HdsR K w hv r.hs) :
    Calls Tryd.prog 32 #[recV r hv] w (RCheckPost w r) := by
  obtain ⟨oa, cap, rfl, h⟩ := h
  have H := Lib.hid h
  clear h
  have hf0 := (Fr.same w).alloc (.cells (recCells r (.slice oa r.hs.length cap)).toArray 39)
  have d6 : (w.alloc (.cells (recCells r (.slice oa r.hs.length cap)).toArray 39)).cell? ⟨w.heap.size, 6, none⟩ = some (.slice oa r.hs.length cap) := cell_alloc_new w _ 39 6
  obtain ⟨rat, rtm, rbare, rkey, rgone, rval, rhs⟩ := r
  unfold recCells at hf0 d6
  unfold recV
  dsimp only at *
  by_cases hr : (0 ≤ rat ∧ rat ≤ 49) ∧ (0 ≤ rtm ∧ rtm ≤ 1099511627776) ∧ rkey.size ≤ 1000 ∧ rval.size ≤ 1000 ∧ rhs.length ≤ 10
  · obtain ⟨⟨h1, h2⟩, ⟨h3, h4⟩, h5, h6, h7⟩ := hr
    cases rbare
    · cases rgone
      · go_enter Tryd.func32, Tryd.ntmps32
        go_wp2_with fail
        generalize (w.alloc (.cells #[.int .i64 rat, .int .i64 rtm, .bool false, .string rkey, .bool false, .string rval, .slice oa rhs.length cap] 39)) = W at *
        have F0 := Lib.hid hf0
        have D6 := Lib.hid d6
        clear hf0 d6
        go_loopw [3] (fun i wr => ∃ k : Nat, i = .int .i64 k ∧ k ≤ rhs.length ∧ (∀ h ∈ rhs.take k, HdrOK h) ∧ Fr (fun _ => False) W wr) (fun i _ => rhs.length - (intOf i).toNat)
        case atStart => exact ⟨0, rfl, Nat.zero_le _, by simp, Fr.same _⟩
        case round =>
          obtain ⟨k, rfl, hk, hok, hf⟩ := hrel
          have F := Lib.hid hf
          have HOK := Lib.hid hok
          have d6 := hf.cel D6.out
          clear hf hok
          rcases Nat.lt_or_ge k rhs.length with hlt | hge
          · obtain ⟨x, hx⟩ := get_of_lt hlt
            obtain ⟨a, rfl, -, c0, c1⟩ := H.out k x hx
            have HX := Lib.hid hx
            have c0 := F.out.cel (F0.out.cel c0)
            have c1 := F.out.cel (F0.out.cel c1)
            have hf2 := F.out.alloc (.cells #[.string x.key, .string x.val] 55)
            have F2 := Lib.hid hf2
            clear hx hf2
            by_cases hh : 1 ≤ x.key.size ∧ x.key.size ≤ 1000 ∧ x.val.size ≤ 1000
            · obtain ⟨g1, g2, g3⟩ := hh
              go_wp2_with fail
              go_roundw
              case rel =>
                refine ⟨k + 1, by go_num, by omega, ?_, F2.out⟩
                intro h hh
                rw [take_snoc HX.out] at hh
                rcases List.mem_append.1 hh with h8 | h8
                · exact HOK.out h h8
                · simp at h8; subst h8; exact ⟨g1, g2, g3⟩
              case measure => simp [intOf]; omega
            · have hh2 : x.key.size < 1 ∨ (1 ≤ x.key.size ∧ 1000 < x.key.size) ∨ ((1 ≤ x.key.size ∧ x.key.size ≤ 1000) ∧ 1000 < x.val.size) := by omega
              have HNO := Lib.hid hh
              clear hh
              rcases hh2 with g1 | ⟨g1, g2⟩ | ⟨⟨g1, g2⟩, g3⟩
              all_goals
                go_wp2_with fail
                go_ret
                exact ⟨1, rfl, .inr ⟨rfl, fun h => HNO.out (h.hdrs x (List.mem_of_getElem? HX.out))⟩, F0.out.tr F2.out⟩
          · have hall := HOK.out
            rw [List.take_of_length_le hge] at hall
            have HALL := Lib.hid hall
            clear hall
            go_wp2_with fail
            go_ret
            exact ⟨0, rfl, .inl ⟨rfl, ⟨h1, h2, h3, h4, h5, h6, h7, fun h => (by cases h), fun h => (by cases h), fun h => (by cases h.1), HALL.out⟩⟩, F0.out.tr F.out⟩
      · by_cases hv : rval.toList = []
        · go_enter Tryd.func32, Tryd.ntmps32
          go_wp2_with fail
          generalize (w.alloc (.cells #[.int .i64 rat, .int .i64 rtm, .bool false, .string rkey, .bool true, .string rval, .slice oa rhs.length cap] 39)) = W at *
          have F0 := Lib.hid hf0
          have D6 := Lib.hid d6
          clear hf0 d6
          go_loopw [3] (fun i wr => ∃ k : Nat, i = .int .i64 k ∧ k ≤ rhs.length ∧ (∀ h ∈ rhs.take k, HdrOK h) ∧ Fr (fun _ => False) W wr) (fun i _ => rhs.length - (intOf i).toNat)
          case atStart => exact ⟨0, rfl, Nat.zero_le _, by simp, Fr.same _⟩
          case round =>
            obtain ⟨k, rfl, hk, hok, hf⟩ := hrel
            have F := Lib.hid hf
            have HOK := Lib.hid hok
            have d6 := hf.cel D6.out
            clear hf hok
            rcases Nat.lt_or_ge k rhs.length with hlt | hge
            · obtain ⟨x, hx⟩ := get_of_lt hlt
              obtain ⟨a, rfl, -, c0, c1⟩ := H.out k x hx
              have HX := Lib.hid hx
              have c0 := F.out.cel (F0.out.cel c0)
              have c1 := F.out.cel (F0.out.cel c1)
              have hf2 := F.out.alloc (.cells #[.string x.key, .string x.val] 55)
              have F2 := Lib.hid hf2
              clear hx hf2
              by_cases hh : 1 ≤ x.key.size ∧ x.key.size ≤ 1000 ∧ x.val.size ≤ 1000
              · obtain ⟨g1, g2, g3⟩ := hh
                go_wp2_with fail
                go_roundw
                case rel =>
                  refine ⟨k + 1, by go_num, by omega, ?_, F2.out⟩
                  intro h hh
                  rw [take_snoc HX.out] at hh
                  rcases List.mem_append.1 hh with h8 | h8
                  · exact HOK.out h h8
                  · simp at h8; subst h8; exact ⟨g1, g2, g3⟩
                case measure => simp [intOf]; omega
              · have hh2 : x.key.size < 1 ∨ (1 ≤ x.key.size ∧ 1000 < x.key.size) ∨ ((1 ≤ x.key.size ∧ x.key.size ≤ 1000) ∧ 1000 < x.val.size) := by omega
                have HNO := Lib.hid hh
                clear hh
                rcases hh2 with g1 | ⟨g1, g2⟩ | ⟨⟨g1, g2⟩, g3⟩
                all_goals
                  go_wp2_with fail
                  go_ret
                  exact ⟨1, rfl, .inr ⟨rfl, fun h => HNO.out (h.hdrs x (List.mem_of_getElem? HX.out))⟩, F0.out.tr F2.out⟩
            · have hall := HOK.out
              rw [List.take_of_length_le hge] at hall
              have HALL := Lib.hid hall
              clear hall
              go_wp2_with fail
              go_ret
              exact ⟨0, rfl, .inl ⟨rfl, ⟨h1, h2, h3, h4, h5, h6, h7, fun h => (by cases h), fun _ => empty_list.2 hv, fun h => (by cases h.1), HALL.out⟩⟩, F0.out.tr F.out⟩
        · go_enter Tryd.func32, Tryd.ntmps32
          go_wp2_with fail
          go_ret
          exact ⟨1, rfl, .inr ⟨rfl, fun h => hv (empty_list.1 (h.gone rfl))⟩, hf0⟩
    · by_cases hk : rkey.toList = []
      · cases rgone
        · have hk0 := hk
          go_enter Tryd.func32, Tryd.ntmps32
          go_wp2_with fail
          generalize (w.alloc (.cells #[.int .i64 rat, .int .i64 rtm, .bool true, .string rkey, .bool false, .string rval, .slice oa rhs.length cap] 39)) = W at *
          have F0 := Lib.hid hf0
          have D6 := Lib.hid d6
          clear hf0 d6
          go_loopw [3] (fun i wr => ∃ k : Nat, i = .int .i64 k ∧ k ≤ rhs.length ∧ (∀ h ∈ rhs.take k, HdrOK h) ∧ Fr (fun _ => False) W wr) (fun i _ => rhs.length - (intOf i).toNat)
          case atStart => exact ⟨0, rfl, Nat.zero_le _, by simp, Fr.same _⟩
          case round =>
            obtain ⟨k, rfl, hk, hok, hf⟩ := hrel
            have F := Lib.hid hf
            have HOK := Lib.hid hok
            have d6 := hf.cel D6.out
            clear hf hok
            rcases Nat.lt_or_ge k rhs.length with hlt | hge
            · obtain ⟨x, hx⟩ := get_of_lt hlt
              obtain ⟨a, rfl, -, c0, c1⟩ := H.out k x hx
              have HX := Lib.hid hx
              have c0 := F.out.cel (F0.out.cel c0)
              have c1 := F.out.cel (F0.out.cel c1)
              have hf2 := F.out.alloc (.cells #[.string x.key, .string x.val] 55)
              have F2 := Lib.hid hf2
              clear hx hf2
              by_cases hh : 1 ≤ x.key.size ∧ x.key.size ≤ 1000 ∧ x.val.size ≤ 1000
              · obtain ⟨g1, g2, g3⟩ := hh
                go_wp2_with fail
                go_roundw
                case rel =>
                  refine ⟨k + 1, by go_num, by omega, ?_, F2.out⟩
                  intro h hh
                  rw [take_snoc HX.out] at hh
                  rcases List.mem_append.1 hh with h8 | h8
                  · exact HOK.out h h8
                  · simp at h8; subst h8; exact ⟨g1, g2, g3⟩
                case measure => simp [intOf]; omega
              · have hh2 : x.key.size < 1 ∨ (1 ≤ x.key.size ∧ 1000 < x.key.size) ∨ ((1 ≤ x.key.size ∧ x.key.size ≤ 1000) ∧ 1000 < x.val.size) := by omega
                have HNO := Lib.hid hh
                clear hh
                rcases hh2 with g1 | ⟨g1, g2⟩ | ⟨⟨g1, g2⟩, g3⟩
                all_goals
                  go_wp2_with fail
                  go_ret
                  exact ⟨1, rfl, .inr ⟨rfl, fun h => HNO.out (h.hdrs x (List.mem_of_getElem? HX.out))⟩, F0.out.tr F2.out⟩
            · have hall := HOK.out
              rw [List.take_of_length_le hge] at hall
              have HALL := Lib.hid hall
              clear hall
              go_wp2_with fail
              go_ret
              exact ⟨0, rfl, .inl ⟨rfl, ⟨h1, h2, h3, h4, h5, h6, h7, fun _ => empty_list.2 hk0, fun h => (by cases h), fun h => (by cases h.2), HALL.out⟩⟩, F0.out.tr F.out⟩
        · by_cases hv : rval.toList = []
          · go_enter Tryd.func32, Tryd.ntmps32
            go_wp2_with fail
            go_ret
            exact ⟨1, rfl, .inr ⟨rfl, fun h => h.both ⟨rfl, rfl⟩⟩, hf0⟩
          · go_enter Tryd.func32, Tryd.ntmps32
            go_wp2_with fail
            go_ret
            exact ⟨1, rfl, .inr ⟨rfl, fun h => h.both ⟨rfl, rfl⟩⟩, hf0⟩
      · go_enter Tryd.func32, Tryd.ntmps32
        go_wp2_with fail
        go_ret
        exact ⟨1, rfl, .inr ⟨rfl, fun h => hk (empty_list.1 (h.bare rfl))⟩, hf0⟩
  · have hr2 : rat < 0 ∨ (0 ≤ rat ∧ 49 < rat) ∨ ((0 ≤ rat ∧ rat ≤ 49) ∧ rtm < 0) ∨ ((0 ≤ rat ∧ rat ≤ 49) ∧ 0 ≤ rtm ∧ 1099511627776 < rtm) ∨ ((0 ≤ rat ∧ rat ≤ 49) ∧ (0 ≤ rtm ∧ rtm ≤ 1099511627776) ∧ 1000 < rkey.size) ∨
        ((0 ≤ rat ∧ rat ≤ 49) ∧ (0 ≤ rtm ∧ rtm ≤ 1099511627776) ∧ rkey.size ≤ 1000 ∧ 1000 < rval.size) ∨ ((0 ≤ rat ∧ rat ≤ 49) ∧ (0 ≤ rtm ∧ rtm ≤ 1099511627776) ∧ rkey.size ≤ 1000 ∧ rval.size ≤ 1000 ∧ 10 < rhs.length) := by omega
    have HNO := Lib.hid hr
    clear hr
    rcases hr2 with h1 | ⟨h1, h2⟩ | ⟨⟨h1, h2⟩, h3⟩ | ⟨⟨h1, h2⟩, h3, h4⟩ | ⟨⟨h1, h2⟩, ⟨h3, h4⟩, h5⟩ | ⟨⟨h1, h2⟩, ⟨h3, h4⟩, h5, h6⟩ | ⟨⟨h1, h2⟩, ⟨h3, h4⟩, h5, h6, h7⟩
    all_goals
      go_enter Tryd.func32, Tryd.ntmps32
      go_wp2_with fail
      go_ret
      exact ⟨1, rfl, .inr ⟨rfl, fun h => HNO.out ⟨⟨h.at0, h.at1⟩, ⟨h.tm0, h.tm1⟩, h.key, h.val, h.hs⟩⟩, hf0⟩
theorem rcheck_ok (K : Nat → Prop) (r : Rec) (hv : Value) (w : World) (h : HdsR K w hv r.hs) (hr : RecOK r) : Calls Tryd.prog 32 #[recV r hv] w fun e w' => e = .returned (.int .i64 0) ∧ Fr (fun _ => False) w w' :=
  (rcheck_walk K r hv w h).mono fun e w' ⟨c, h1, h2, h3⟩ => by
    rcases h2 with ⟨rfl, -⟩ | ⟨-, h4⟩
    · exact ⟨h1, h3⟩
    · exact absurd hr h4
theorem rcheck_no (K : Nat → Prop) (r : Rec) (hv : Value) (w : World) (h : HdsR K w hv r.hs) (hr : ¬ RecOK r) : Calls Tryd.prog 32 #[recV r hv] w fun e w' => e = .returned (.int .i64 1) ∧ Fr (fun _ => False) w w' :=
  (rcheck_walk K r hv w h).mono fun e w' ⟨c, h1, h2, h3⟩ => by
    rcases h2 with ⟨-, h4⟩ | ⟨rfl, -⟩
    · exact absurd h4 hr
    · exact ⟨h1, h3⟩
end Go.Proofs.YtcnmggmfehdfoaaDoor
