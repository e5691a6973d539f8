/- OffsetsScripts: the walk. -/
import Derived.Test.YtdgdhegbcjimbaaD9
namespace Go.Proofs.Ytdgdhegbcjimbaa
open Go.RowKit Go.Fm Go.BigFrame
set_option linter.unusedVariables false
set_option linter.unusedSimpArgs false

set_option maxRecDepth 100000 in
set_option maxHeartbeats 32000000 in
theorem scripts_walk (room : Int) (oa : Option Addr) (cap : Nat) (l : List Opn) (w : World) (h : OpsR w oa l) : Calls Try.prog 6 #[.int .i64 room, .slice oa l.length cap] w (TruePost w) := by
  have H := Lib.hid h
  clear h
  by_cases hroom : 1 ≤ room ∧ room ≤ 10000
  · obtain ⟨h1, h2⟩ := hroom
    have g1 : decide (room < 1) = false := by simp; omega
    have g2 : decide (10000 < room) = false := by simp; omega
    go_enter Try.func6, Try.ntmps6
    go_wp2_with fail
    refine (new_yes room h1 h2 _).mono ?_
    rintro e w1 ⟨tb, mb, rfl, ht1, l1, l2, hf1⟩
    have T1 := Lib.hid (ht1.old ((Fr.same w1).alloc (.cells #[.int .i64 room, .slice none 0 0] 51)))
    have F1 := Lib.hid (hf1.alloc (.cells #[.int .i64 room, .slice none 0 0] 51))
    have hs := hf1.size
    have R1 : Hid (RTbl (w1.alloc (.cells #[.int .i64 room, .slice none 0 0] 51)) w.heap.size w1.heap.size (.slice none 0 0) room []) :=
      Lib.hid ⟨heap_alloc_self w1 _, World.ownsRow_nil _ _ _ _, by simp, hs⟩
    clear ht1 hf1
    go_wp2_with fail
    generalize hkb : w1.heap.size = kb at *
    go_loopw [8] (fun iv wr => ∃ (k : Nat) (M L : List Row) (v : Value), iv = .int .i64 k ∧ k ≤ l.length ∧ Tbl wr tb mb room M ∧ RTbl wr w.heap.size kb v room L ∧ Like M L ∧ Fr (fun _ => False) w wr) (fun iv _ => l.length - (intOf iv).toNat)
    case atStart => exact ⟨0, [], [], _, rfl, Nat.zero_le _, T1.out, R1.out, Like.nil, F1.out⟩
    case round =>
      obtain ⟨k, M, L, v, rfl, hk, ht, hr, hl, hf⟩ := hrel
      have T := Lib.hid ht
      have R := Lib.hid hr
      have K := Lib.hid hl
      have F := Lib.hid hf
      clear ht hr hl hf
      by_cases hgo : k < l.length ∧ k < 60
      · obtain ⟨hlt, h60⟩ := hgo
        obtain ⟨x, hx⟩ := get_of_lt hlt
        obtain ⟨a, rfl, hop, hok⟩ := H.out k x hx
        obtain ⟨c0, c1, c2, c3, c4, c5, c6, c7, c8, c9, c10, c11⟩ := hop.old F.out
        have g3 : decide ((k : Int) < l.length) = true := by simp; omega
        have g4 : decide ((k : Int) < 60) = true := by simp; omega
        have HOK := Lib.hid hok
        clear hop hok
        by_cases hn : 20 < x.n
        · have g5 : decide ((20 : Int) < x.n) = true := by simp; omega
          clear c0 c1 c2 c3 c4 c5 c6 c7 c8 c9 c10
          go_wp2_with fail
          refine (live_walk _).mono ?_
          rintro e w2 ⟨rfl, hf2⟩
          go_wp2_with fail
          go_ret
          exact ⟨rfl, F.out.tr hf2⟩
        · have g5 : decide ((20 : Int) < x.n) = false := by simp; omega
          have SW := Lib.hid (step_walk x.o.d x.o.g x.o.t x.o.i x.o.a x.o.r.at' x.o.r.tm x.o.r.bare x.o.r.key x.o.r.gone x.o.r.val x.hb x.n x.cap ⟨HOK.out.g, HOK.out.t, HOK.out.i⟩ HOK.out.rk HOK.out.rv tb mb room M w.heap.size kb v L wr T.out R.out K.out F.out.size)
          have hownB : ∀ i, v.ownBlock = some i → w.heap.size ≤ i := fun i hi => (own_lt R.out.rows hi).1
          have HOB := Lib.hid hownB
          clear hownB
          go_wp2_with fail
          refine SW.out.mono ?_
          rintro e w2 ⟨rfl, M2, L2, v2, ht2, hr2, hl2, hf2⟩
          have T2 := Lib.hid ht2
          have R2 := Lib.hid hr2
          have K2 := Lib.hid hl2
          have F2 := Lib.hid (F.out.trans hf2 fun i e => .inr (by rcases e with e | e | e <;> first | omega | exact HOB.out i e))
          clear ht2 hr2 hl2 hf2 c0 c1 c2 c3 c4 c5 c6 c7 c8 c9 c10 c11
          go_wp2_with fail
          refine (holds_walk tb mb room M2 _ kb v2 L2 w2 T2.out R2.out K2.out).mono ?_
          rintro e w3 ⟨rfl, hf3⟩
          have T3 := Lib.hid (T2.out.old hf3)
          have R3 := Lib.hid (R2.out.old hf3)
          have F3 := Lib.hid (F2.out.tr hf3)
          clear hf3
          go_wp2_with fail
          go_roundw
          case rel => exact ⟨k + 1, M2, L2, v2, by go_num, hlt, T3.out, R3.out, K2.out, F3.out⟩
          case measure => simp [intOf]; omega
      · have hg : l.length ≤ k ∨ (k < l.length ∧ 60 ≤ k) := by omega
        clear hgo
        rcases hg with hg | ⟨hg, hg2⟩
        · have g3 : decide ((k : Int) < l.length) = false := by simp; omega
          go_wp2_with fail
          refine (live_walk _).mono ?_
          rintro e w2 ⟨rfl, hf2⟩
          go_wp2_with fail
          go_ret
          exact ⟨rfl, F.out.tr hf2⟩
        · have g3 : decide ((k : Int) < l.length) = true := by simp; omega
          have g4 : decide ((k : Int) < 60) = false := by simp; omega
          go_wp2_with fail
          refine (live_walk _).mono ?_
          rintro e w2 ⟨rfl, hf2⟩
          go_wp2_with fail
          go_ret
          exact ⟨rfl, F.out.tr hf2⟩
  · have hbad : room < 1 ∨ 10000 < room := by omega
    have hcase : (room < 1) ∨ (¬ room < 1 ∧ 10000 < room) := by omega
    clear hroom
    rcases hcase with h | ⟨h, h'⟩
    all_goals
      go_enter Try.func6, Try.ntmps6
      go_wp2_with fail
      refine (new_no room hbad _).mono ?_
      rintro e w1 ⟨rfl, rfl⟩
      go_wp2_with fail
      refine (live_walk _).mono ?_
      rintro e w2 ⟨rfl, hf2⟩
      go_wp2_with fail
      go_ret
      exact ⟨rfl, hf2⟩
end Go.Proofs.Ytdgdhegbcjimbaa
