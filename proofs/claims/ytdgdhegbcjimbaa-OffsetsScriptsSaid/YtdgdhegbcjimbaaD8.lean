/- 'holds' of the law: the walk. -/
import Derived.Test.YtdgdhegbcjimbaaN3
import Derived.Test.YtdgdhegbcjimbaaR4
namespace Go.Proofs.Ytdgdhegbcjimbaa
open Go.RowKit Go.Fm Go.BigFrame
set_option linter.unusedVariables false
set_option linter.unusedSimpArgs false

set_option maxRecDepth 100000 in
set_option maxHeartbeats 16000000 in
theorem holds_walk (tb mb : Nat) (room : Int) (M : List Row) (B kb : Nat) (v : Value) (L : List Row) (w : World) (ht : Tbl w tb mb room M) (hr : RTbl w B kb v room L) (hl : Like M L) :
    Calls Try.prog 17 #[.pointer (some ⟨tb, 0, none⟩), .pointer (some ⟨kb, 0, none⟩)] w (TruePost w) := by
  have T := Lib.hid ht
  have R := Lib.hid hr
  have K := Lib.hid hl
  have hlen := hr.len
  obtain ⟨oa, cap, rfl⟩ := hr.slice
  clear ht hr hl
  go_enter Try.func17, Try.ntmps17
  go_wp2_with (fail)
  go_at_call 14
  refine (keys_walk tb mb room M _ T.out).mono ?_
  rintro e w2 ⟨oa2, cap2, ss, rfl, hp, hri, hks, hf2⟩
  obtain rfl : ss = L.map (·.1) := rising_eq hri K.out.rise (hp.trans (K.out.perm.map _).symm)
  rw [List.length_map]
  have HK := Lib.hid hks
  have F2 := Lib.hid hf2
  have R2 := Lib.hid (R.out.old hf2)
  have e1 := (cell_of R2.out.cells 1).trans rfl
  simp at e1
  clear hp hri hks hf2
  go_wp2_with fail
  clear e1
  go_loopw [6] (fun iv wr => ∃ k : Nat, iv = .int .i64 k ∧ k ≤ L.length ∧ Fr (fun _ => False) w2 wr) (fun iv _ => L.length - (intOf iv).toNat)
  case atStart => exact ⟨0, rfl, Nat.zero_le _, Fr.same _⟩
  case round =>
    obtain ⟨k, rfl, hk, hf⟩ := hrel
    have F := Lib.hid hf
    clear hf
    rcases Nat.lt_or_ge k L.length with hlt | hge
    · obtain ⟨x, hx⟩ := get_of_lt hlt
      have hx2 : (L.map (·.1))[k]? = some x.1 := by rw [List.getElem?_map, hx]; rfl
      obtain ⟨g, rfl, -, c0, c1, c2⟩ := HK.out k _ hx2
      have hg : getL M x.1 = some x.2 := by rw [← K.out.get]; exact getL_mem (rising_nodup K.out.rise) (List.mem_of_getElem? hx)
      have hko := (T.out.map.1.ok (x.1, x.2) (getL_some hg)).1
      have GW := Lib.hid (fun w' h => get_walk' x.1 hko tb mb room M w' h)
      unfold GetPost at GW
      rw [hg] at GW
      simp only [Option.getD_some, Option.isSome_some] at GW
      have C0 := Lib.hid c0
      have C1 := Lib.hid c1
      have C2 := Lib.hid c2
      have d0 := F.out.cel c0
      have d1 := F.out.cel c1
      have d2 := F.out.cel c2
      have HX := Lib.hid hx
      clear c0 c1 c2 hx2 hg hx
      go_wp2_with fail
      refine (GW.out _ ((T.out.old F2.out).old F.out)).mono ?_
      rintro e w3 ⟨rfl, hf3⟩
      have F3 := Lib.hid (F.out.tr hf3)
      have e0 := F3.out.cel C0.out
      have e1 := F3.out.cel C1.out
      have e2 := F3.out.cel C2.out
      have R3 := Lib.hid (R2.out.old F3.out)
      obtain ⟨g', hg', -, -, r0, r1, r2, r3⟩ := R3.out.at HX.out
      subst hg'
      have r9 := (cell_of R3.out.cells 1).trans rfl
      simp at r9
      have hne := neq29 x.1.t x.1.t x.1.i x.1.i
      have hq : (!(x.1.t.toList == x.1.t.toList && x.1.i == x.1.i)) = false := by simp
      rw [hq] at hne
      clear hf3 d0 d1 d2 hq
      go_wp2_with fail
      go_quiet (fail)
      have F4 := Lib.hid (F3.out.drewN nq)
      clear hne e0 e1 e2 r0 r1 r2 r3 r9
      generalize w3.drewN nq = w4 at *
      go_wp2_with fail
      go_roundw
      case rel => exact ⟨k + 1, by go_num, hlt, F4.out⟩
      case measure => simp [intOf]; omega
    · obtain rfl : k = L.length := by omega
      have F5 := Lib.hid (F2.out.tr F.out)
      go_wp2_with fail
      go_ret
      exact ⟨rfl, F5.out⟩
end Go.Proofs.Ytdgdhegbcjimbaa
