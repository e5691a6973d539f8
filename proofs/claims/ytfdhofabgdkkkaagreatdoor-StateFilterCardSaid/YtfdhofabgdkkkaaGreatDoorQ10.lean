/- Check of a record: the walk. -/
import Derived.Test.YtfdhofabgdkkkaaGreatDoorQ8
import Derived.Test.YtfdhofabgdkkkaaGreatDoorQ9
import Derived.Test.YtfdhofabgdkkkaaGreatDoorQ3
import Derived.Test.YtfdhofabgdkkkaaGreatDoorQ4
import Derived.Lib.Builder
import Derived.Lib.Strings
import Derived.Lib.AppendStr
import Derived.Laws.Externs
namespace Go.Proofs.YtfdhofabgdkkkaaGreatDoor
open Go.RowKit Go.Fm Go.BigFrame
set_option linter.unusedVariables false
set_option linter.unusedSimpArgs false
theorem fz_of {w : World} {b : Nat} {c : Array Value} {e : TypeId} (h : w.heap[b]? = some (.cells c e (0, 0))) (j : Nat) : w.frozen? ⟨b, j, none⟩ = false := by
 unfold World.frozen?
 rw [h]
 simp
theorem cell_of {w : World} {b : Nat} {c : Array Value} {e : TypeId} (h : w.heap[b]? = some (.cells c e (0, 0))) (j : Nat) : w.cell? ⟨b, j, none⟩ = c[j]? := by
 unfold World.cell?
 rw [h]
 rfl
def HdrOK (h : Hdr) : Prop := 1 ≤ h.key.size ∧ h.key.size ≤ 1000 ∧ h.val.size ≤ 1000
structure RecOK (r : Rec) : Prop where
 at0 : 0 ≤ r.at'
 at1 : r.at' ≤ 49
 tm0 : 0 ≤ r.tm
 tm1 : r.tm ≤ 1099511627776
 key : r.key.size ≤ 1000
 val : r.val.size ≤ 1000
 hs : r.hs.length ≤ 10
 bare : r.bare = true → r.key = ByteArray.empty
 gone : r.gone = true → r.val = ByteArray.empty
 both : ¬ (r.bare = true ∧ r.gone = true)
 hdrs : ∀ h ∈ r.hs, HdrOK h
def RCheckPost (w : World) (r : Rec) (e : Ending) (w' : World) : Prop := ∃ c : Int, e = .returned (.int .i64 c) ∧ ((c = 0 ∧ RecOK r) ∨ (c = 1 ∧ ¬ RecOK r)) ∧ Fr (fun _ => False) w w'
theorem empty_list {s : ByteArray} : s = ByteArray.empty ↔ s.toList = [] := (toList_nil_iff_emptyBytes s).symm
/-- The record's box. -/
def recObj (r : Rec) (hv : Value) : Obj := .cells #[.int .i64 r.at', .int .i64 r.tm, .bool r.bare, .string r.key, .bool r.gone, .string r.val, hv] 95 (0, 0)
set_option maxRecDepth 100000 in
set_option maxHeartbeats 16000000 in
theorem rcheck_walk (K : Nat → Prop) (r : Rec) (hv : Value) (w : World) (h : HdsR K w hv r.hs) : Calls Tryz.prog 93 #[recV r hv] w (RCheckPost w r) := by
 obtain ⟨oa, cap, rfl, h⟩ := h
 have H := Lib.hid h
 have hobj := heap_alloc_self w (recObj r (.slice oa r.hs.length cap))
 have hfa := (Fr.same w).alloc (recObj r (.slice oa r.hs.length cap))
 have bad : ¬ RecOK r → ∀ w', Fr (fun _ => False) w w' → RCheckPost w r (.returned (.int .i64 1)) w' := fun hn w' hf => ⟨1, rfl, .inr ⟨rfl, hn⟩, hf⟩
 have OB := Lib.hid hobj
 have FA := Lib.hid hfa
 clear h hobj hfa
 by_cases hn : (0 ≤ r.at' ∧ r.at' ≤ 49) ∧ (0 ≤ r.tm ∧ r.tm ≤ 1099511627776)
 ·by_cases hl : r.key.size ≤ 1000 ∧ r.val.size ≤ 1000 ∧ r.hs.length ≤ 10
  ·by_cases hfl : (r.bare = true → r.key = ByteArray.empty) ∧ (r.gone = true → r.val = ByteArray.empty) ∧ ¬ (r.bare = true ∧ r.gone = true)
   ·obtain ⟨⟨h1, h2⟩, h3, h4⟩ := hn
    obtain ⟨h5, h6, h7⟩ := hl
    obtain ⟨k1, k2, k3⟩ := hfl
    have ok : (∀ h ∈ r.hs, HdrOK h) → ∀ w', Fr (fun _ => False) w w' → RCheckPost w r (.returned (.int .i64 0)) w' := fun hh w' hf => ⟨0, rfl, .inl ⟨rfl, ⟨h1, h2, h3, h4, h5, h6, h7, k1, k2, k3, hh⟩⟩, hf⟩
    have bad2 : (∃ h ∈ r.hs, ¬ HdrOK h) → ∀ w', Fr (fun _ => False) w w' → RCheckPost w r (.returned (.int .i64 1)) w' := fun ⟨h, hm, hn⟩ => bad fun hr => hn (hr.hdrs h hm)
    have OK := Lib.hid ok
    have BAD := Lib.hid bad2
    have ek : r.bare = true → r.key.toList = [] ∧ r.key.toList.isEmpty = true := fun h => by have := empty_list.1 (k1 h); exact ⟨this, by rw [this]; rfl⟩
    have ev : r.gone = true → r.val.toList = [] ∧ r.val.toList.isEmpty = true := fun h => by have := empty_list.1 (k2 h); exact ⟨this, by rw [this]; rfl⟩
    have K3 := Lib.hid k3
    clear ok bad2 bad k1 k2 k3
    have c6 := (cell_of OB.out 6).trans rfl
    obtain ⟨rat, rtm, rbare, rkey, rgone, rval, rhs⟩ := r
    unfold recV
    dsimp only at *
    have hsh : rbare = false ∧ rgone = false ∨ rbare = true ∧ rgone = false ∧ rkey.toList = [] ∧ rkey.toList.isEmpty = true ∨ rbare = false ∧ rgone = true ∧ rval.toList = [] ∧ rval.toList.isEmpty = true := by
     cases rbare <;> cases rgone
     ·exact .inl ⟨rfl, rfl⟩
     ·exact .inr (.inr ⟨rfl, rfl, ev rfl⟩)
     ·exact .inr (.inl ⟨rfl, rfl, ek rfl⟩)
     ·exact (K3.out ⟨rfl, rfl⟩).elim
    clear ek ev c6
    rcases hsh with ⟨rfl, rfl⟩ | ⟨rfl, rfl, e1, e2⟩ | ⟨rfl, rfl, e1, e2⟩
    all_goals
     go_enter Tryz.func93, Tryz.ntmps93
     go_wp2_with fail
     generalize hW : w.alloc (.cells #[.int .i64 rat, .int .i64 rtm, .bool _, .string rkey, .bool _, .string rval, .slice oa rhs.length cap] 95) = W
     have FW : Hid (Fr (fun _ => False) w W) := Lib.hid (by rw [← hW]; exact (Fr.same w).alloc _)
     clear hW
     go_loopw [8] (fun i wr => ∃ k : Nat, i = .int .i64 k ∧ k ≤ rhs.length ∧ (∀ h ∈ rhs.take k, HdrOK h) ∧ Fr (fun _ => False) W wr) (fun i _ => rhs.length - (intOf i).toNat)
     case atStart => exact ⟨0, rfl, Nat.zero_le _, by simp, Fr.same _⟩
     case round =>
      obtain ⟨k, rfl, hk, hok, hf⟩ := hrel
      have F := Lib.hid hf
      have HOK := Lib.hid hok
      clear hf hok
      rcases Nat.lt_or_ge k rhs.length with hlt | hge
      ·obtain ⟨x, hx⟩ := get_of_lt hlt
       obtain ⟨a, rfl, -, c0, c1⟩ := H.out k x hx
       have HX := Lib.hid hx
       have c0 := (FW.out.tr F.out).cel c0
       have c1 := (FW.out.tr F.out).cel c1
       have hf2 := F.out.alloc (.cells #[.string x.key, .string x.val] 97)
       have F2 := Lib.hid hf2
       have hxe := @empty_list x.key
       have hxs : x.key.toList = [] ↔ x.key.size = 0 := by
        rw [← hxe]
        constructor
        ·rintro h; rw [h]; rfl
        ·intro h; exact ByteArray.size_eq_zero_iff.1 h
       have HXS := Lib.hid hxs
       clear hx hf2 hxe hxs
       by_cases hh : 1 ≤ x.key.size ∧ x.key.size ≤ 1000 ∧ x.val.size ≤ 1000
       ·obtain ⟨g1, g2, g3⟩ := hh
        have g4 : ¬ x.key.toList = [] := fun h => by have := HXS.out.1 h; omega
        have g5 : x.key.toList.isEmpty = false := by simpa using g4
        go_wp2_with fail
        go_roundw
        case rel =>
         refine ⟨k + 1, by go_num, by omega, ?_, F2.out⟩
         intro h hh
         rw [List.take_add_one, HX.out] at hh
         rcases List.mem_append.1 hh with h8 | h8
         ·exact HOK.out h h8
         ·simp at h8; subst h8; exact ⟨g1, g2, g3⟩
        case measure => simp [intOf]; omega
       ·have HNO := Lib.hid (BAD.out ⟨x, List.mem_of_getElem? HX.out, hh⟩)
        have hh2 : x.key.size < 1 ∨ (1 ≤ x.key.size ∧ 1000 < x.key.size) ∨ ((1 ≤ x.key.size ∧ x.key.size ≤ 1000) ∧ 1000 < x.val.size) := by omega
        clear hh
        rcases hh2 with g1 | ⟨g1, g2⟩ | ⟨⟨g1, g2⟩, g3⟩
        ·have g4 : x.key.toList = [] := HXS.out.2 (by omega)
         go_wp2_with fail
         go_ret
         exact HNO.out _ (FW.out.tr F2.out)
        ·have g4 : ¬ x.key.toList = [] := fun h => by have := HXS.out.1 h; omega
         have g5 : x.key.toList.isEmpty = false := by simpa using g4
         go_wp2_with fail
         go_ret
         exact HNO.out _ (FW.out.tr F2.out)
        ·have g4 : ¬ x.key.toList = [] := fun h => by have := HXS.out.1 h; omega
         have g5 : x.key.toList.isEmpty = false := by simpa using g4
         go_wp2_with fail
         go_ret
         exact HNO.out _ (FW.out.tr F2.out)
      ·have hall := HOK.out
       rw [List.take_of_length_le hge] at hall
       have HALL := Lib.hid (OK.out hall)
       clear hall
       go_wp2_with fail
       go_ret
       exact HALL.out _ (FW.out.tr F.out)
   ·have BAD := Lib.hid (bad fun hr => hfl ⟨hr.bare, hr.gone, hr.both⟩)
    obtain ⟨⟨h1, h2⟩, h3, h4⟩ := hn
    obtain ⟨h5, h6, h7⟩ := hl
    obtain ⟨rat, rtm, rbare, rkey, rgone, rval, rhs⟩ := r
    unfold recV
    dsimp only at *
    have NF := Lib.hid hfl
    have ek := @empty_list rkey
    have ev := @empty_list rval
    have EK := Lib.hid ek
    have EV := Lib.hid ev
    clear hfl bad ek ev
    cases rbare <;> cases rgone
    all_goals
     go_enter Tryz.func93, Tryz.ntmps93
     go_wp2_with fail
    all_goals first
     | (go_ret; exact BAD.out _ FA.out)
     | (exfalso; have h1 := NF.out; have h2 := EK.out; have h3 := EV.out; simp_all; done)
  ·have BAD := Lib.hid (bad fun hr => hl ⟨hr.key, hr.val, hr.hs⟩)
   have NL := Lib.hid hl
   obtain ⟨⟨h1, h2⟩, h3, h4⟩ := hn
   obtain ⟨rat, rtm, rbare, rkey, rgone, rval, rhs⟩ := r
   unfold recV
   dsimp only at *
   clear bad hl
   go_enter Tryz.func93, Tryz.ntmps93
   go_wp2_with fail
   all_goals first
    | (exfalso; have h9 := NL.out; omega)
    | (go_ret; exact BAD.out _ FA.out)
 ·have BAD := Lib.hid (bad fun hr => hn ⟨⟨hr.at0, hr.at1⟩, hr.tm0, hr.tm1⟩)
  have NN := Lib.hid hn
  obtain ⟨rat, rtm, rbare, rkey, rgone, rval, rhs⟩ := r
  unfold recV
  dsimp only at *
  clear hn bad
  go_enter Tryz.func93, Tryz.ntmps93
  go_wp2_with fail
  all_goals first
   | (exfalso; have h9 := NN.out; omega)
   | (go_ret; exact BAD.out _ FA.out)
end Go.Proofs.YtfdhofabgdkkkaaGreatDoor
/- A builder of strings that the call has made: written on, read out: the walks. -/
namespace Go.Proofs.YtfdhofabgdkkkaaGreatDoor
open Go.RowKit Go.Fm Go.BigFrame Go.Shelf
set_option linter.unusedVariables false
set_option linter.unusedSimpArgs false
theorem below_tr {w a b : World} {B : Nat} (h : Fr (fun _ => False) w a) (k : Below B a b) (hB : w.heap.size ≤ B) : Fr (fun _ => False) w b :=
 ⟨k.os.trans h.os, k.tape.trans h.tape, k.output.trans h.output, Nat.le_trans h.size k.size, fun i hi hn => (k.block i (by omega)).trans (h.block i hi hn)⟩
theorem sizeBld : (Tryz.prog.info? 358).map (·.size) = some 2 := by kernel_rfl
theorem liesBld : liesAt Tryz.prog Tryz.prog.depth 358 (2 / Tryz.prog.cellsOf 358) 0 358 1 = true := by kernel_rfl
set_option maxHeartbeats 1000000 in
set_option maxRecDepth 100000 in
theorem copyCheck_used (b : Nat) (w : World) (h0 : w.cell? ⟨b, 0, none⟩ = some (.pointer (some ⟨b, 0, none⟩))) :
  Calls Tryz.prog 291 #[.pointer (some ⟨b, 0, none⟩)] w fun e w' => e = .returned (.tuple #[]) ∧ w' = w := by
 obtain ⟨j, hj, _⟩ := Option.map_eq_some_iff.1 sizeBld
 go_enter Tryz.func291, Tryz.ntmps291
 go_wp2
 rw [Lib.run_neq_ptr_same w _ Tryz.underlying356 hj]
 go_wp2
 go_end0
 exact ⟨rfl, rfl⟩
set_option maxHeartbeats 1000000 in
set_option maxRecDepth 100000 in
theorem copyCheck_fresh (b : Nat) (w : World) (h0 : w.cell? ⟨b, 0, none⟩ = some (.pointer none)) (hsh : w.shape? b = some (358, 2)) (hfz : w.frozen? ⟨b, 0, none⟩ = false) :
  Calls Tryz.prog 291 #[.pointer (some ⟨b, 0, none⟩)] w fun e w' => e = .returned (.tuple #[]) ∧ w' = w.setCell ⟨b, 0, none⟩ (.pointer (some ⟨b, 0, none⟩)) := by
 obtain ⟨j, hj, hjs⟩ := Option.map_eq_some_iff.1 sizeBld
 go_enter Tryz.func291, Tryz.ntmps291
 go_wp2
 rw [Lib.run_to_unsafe w ⟨b, 0, none⟩ Tryz.underlying356 Tryz.underlying406 hj (by rw [hjs]; decide) hsh (Nat.zero_lt_succ 1)]
 simp only [Result.andThen]
 rw [Oper.upon_value]
 go_wp2
 rw [run_callFunc_extern Tryz.func307 (by kernel_rfl) (by kernel_rfl) (by kernel_rfl) (e := Extern.AbiNoEscape.same) (by kernel_rfl)]
 rw [Lib.run_noEscape]
 simp only [Result.andThen]
 rw [Oper.upon_value]
 go_wp2
 rw [Lib.run_from_unsafe w ⟨b, 0, none⟩ Tryz.underlying406 Tryz.underlying356 hj hsh liesBld]
 simp only [Result.andThen]
 rw [Oper.upon_value]
 go_wp2
 go_end0
 exact ⟨rfl, rfl⟩
/-- What is no row of bytes, and not the builder, stands. -/
def Kept (b : Nat) (w w' : World) : Prop := ∀ (i : Nat) (c : Array Value) (e : TypeId) (f : Nat × Nat), i ≠ b → e ≠ 5 → w.heap[i]? = some (.cells c e f) → w'.heap[i]? = some (.cells c e f)
theorem Kept.refl (b : Nat) (w : World) : Kept b w w := fun _ _ _ _ _ _ h => h
theorem Kept.trans {b : Nat} {x y z : World} (h : Kept b x y) (k : Kept b y z) : Kept b x z := fun i c e f h1 h2 h3 => k i c e f h1 h2 (h i c e f h1 h2 h3)
theorem copyCheck_walk (B b : Nat) (bs : List Value) (w : World) (h : Lib.IsBuilder 358 5 B b bs w) :
  Calls Tryz.prog 291 #[.pointer (some ⟨b, 0, none⟩)] w fun e w' => e = .returned (.tuple #[]) ∧ (Lib.BuilderAt 358 5 B b (.pointer (some ⟨b, 0, none⟩)) bs w' ∧ Below B w w' ∧ Kept b w w') := by
 rcases h with h | h
 ·refine (copyCheck_fresh b w h.cell0 h.shape h.frozen0).mono ?_
  rintro e w' ⟨rfl, rfl⟩
  exact ⟨rfl, h.used _, (Below.refl B w).setCell (p := ⟨b, 0, none⟩) h.1 _, fun i c e f h1 _ h3 => (heap_setCell_ne w h1 _).trans h3⟩
 ·refine (copyCheck_used b w h.cell0).mono ?_
  rintro e w' ⟨rfl, rfl⟩
  exact ⟨rfl, h, Below.refl B _, Kept.refl _ _⟩
set_option maxHeartbeats 2000000 in
set_option maxRecDepth 100000 in
theorem write_walk (B b : Nat) (bs : List Value) (s : ByteArray) (w : World) (h : Lib.IsBuilder 358 5 B b bs w) (hlen : bs.length + s.size ≤ 140737488355328) (hBw : B ≤ w.heap.size) :
  Calls Tryz.prog 245 #[.pointer (some ⟨b, 0, none⟩), .string s] w fun e w' => e = .returned (.tuple #[.int .i64 s.size, .nilIface]) ∧ (Lib.BuilderAt 358 5 B b (.pointer (some ⟨b, 0, none⟩)) (bs ++ Lib.strCells s) w' ∧ Below B w w' ∧ Kept b w w') := by
 obtain ⟨i0, hi, hz0, hz1, hz2⟩ := info_parts info5
 go_enter Tryz.func245, Tryz.ntmps245
 go_wp2_with (go_at_call 291; refine (copyCheck_walk B b bs _ h).mono ?_)
 rintro e w1 ⟨rfl, h1, hb1, hk1⟩
 obtain ⟨hB, v, hbk, hown, hne⟩ := h1
 have c0 : w1.cell? ⟨b, 0, none⟩ = some (.pointer (some ⟨b, 0, none⟩)) := by rw [Lib.cell_of_heap hbk]; rfl
 have c1 : w1.cell? ⟨b, 1, none⟩ = some v := by rw [Lib.cell_of_heap hbk]; rfl
 go_wp2_with (at_builtin; refine Lib.wpList_append_own_string _ rfl _ _ 305 9 rfl B 5 i0 Tryz.underlying305 Tryz.underlying9 hi hz0 hz1 hz2 _ _ _ rfl hown s rfl ?c3 ?c4 ?c5 ?_)
 case c3 => unfold maxLen; omega
 case c4 => omega
 case c5 => have := hb1.size; omega
 intro v' w2 hown' hgrow _
 have hlt : b < w1.heap.size := by
  rcases Nat.lt_or_ge b w1.heap.size with h' | h'
  ·exact h'
  ·simp [Array.getElem?_eq_none h'] at hbk
 have hb2 : w2.heap[b]? = some (.cells #[.pointer (some ⟨b, 0, none⟩), v] 358 (0, 0)) := by
  rw [hgrow.block b hlt (fun e => hne e.symm)]
  exact hbk
 have d0 : w2.cell? ⟨b, 0, none⟩ = some (.pointer (some ⟨b, 0, none⟩)) := by rw [Lib.cell_of_heap hb2]; rfl
 have d1 : w2.cell? ⟨b, 1, none⟩ = some v := by rw [Lib.cell_of_heap hb2]; rfl
 have f1 : w2.frozen? ⟨b, 1, none⟩ = false := Lib.frozen_of_heap hb2 1
 obtain ⟨ao, n', cap, rfl⟩ : ∃ ao n' cap, v' = .slice ao n' cap := by
  rcases hown'.2 with ⟨hv, _⟩ | ⟨g, cap, cur, hv, _⟩
  ·exact ⟨_, _, _, hv⟩
  ·exact ⟨_, _, _, hv⟩
 go_wp2
 go_ret2
 refine ⟨rfl, ?_, ?_, ?_⟩
 ·exact Lib.BuilderAt.put (T := 358) (e := 5) hB hb2 (bs' := bs ++ Lib.strCells s) (by simpa [Lib.strCells_length] using hown') (by decide)
 ·exact (hb1.grown hgrow (by have := hb1.size; omega) (fun k hk => (hown.lt k hk).1)).setCell (p := ⟨b, 1, none⟩) hB _
 ·refine hk1.trans fun i c e f g1 g2 g3 => (heap_setCell_ne w2 g1 _).trans ((hgrow.block i (lt_of_heap g3) fun hr => ?_).trans g3)
  rcases hown.2 with ⟨hv, _⟩ | ⟨g, cap2, cur, hv, _, hg, _⟩
  ·rw [hv] at hr; cases hr
  ·rw [hv] at hr
   have e1 : i = g := by simpa [Value.ownBlock] using hr
   subst e1
   rw [hg] at g3
   injection g3 with g3
   injection g3 with _ g3 _
   exact g2 g3.symm
end Go.Proofs.YtfdhofabgdkkkaaGreatDoor
