/- A request of any make: is it small; asked, and answered. -/
import Derived.Test.YtfdhofabgdkkkaaGreatDoorU46
import Derived.Test.YtfdhofabgdkkkaaGreatDoorU47
namespace Go.Proofs.YtfdhofabgdkkkaaGreatDoor
open Go.RowKit Go.Fm Go.BigFrame Go.Shelf Go.Maps
set_option linter.unusedVariables false
set_option linter.unusedSimpArgs false
set_option maxRecDepth 100000
section
variable {w w' : World} {S : Nat → Prop} {K K2 : Nat → Prop}
def AnyBool (w : World) (e : Ending) (w' : World) : Prop := (∃ b, e = .returned (.bool b)) ∧ Fr (fun _ => False) w w'
set_option maxHeartbeats 32000000 in
theorem rsmall_walk (q : Req) (ro : Option Addr) (rn rc : Nat) (kv : Value) (to : Option Addr) (tn tc : Nat) (ks : Fst) (hr : RecsR K w (.slice ro rn rc) q.bat.recs) (hk : KidR K2 w kv ks) (ho : ∀ i, K2 i → i < w.heap.size) :
  Calls Tryz.prog 17 #[.agg (reqC q (.slice ro rn rc) kv (.slice to tn tc))] w (AnyBool w) := by
 obtain ⟨ko, kc, rfl, -⟩ := id hk
 have f1 := (Fr.same w).alloc (.cells #[.int .i64 q.kind, .string q.name, .int .i64 q.index, .int .i64 q.count, .int .i64 q.from', .bool q.flag, .int .i64 q.bat.base, .int .i64 q.bat.span, .int .i64 q.bat.prod, .int .i64 q.bat.epoch, .int .i64 q.bat.seq, .slice ro rn rc, .int .i64 q.fop, .string q.fnm, .string q.fvl, .slice ko ks.len kc, .string q.group, .int .i64 q.member, .int .i64 q.gen, .slice to tn tc] 50)
 have X1 := Lib.hid (heap_alloc_self w (.cells #[.int .i64 q.kind, .string q.name, .int .i64 q.index, .int .i64 q.count, .int .i64 q.from', .bool q.flag, .int .i64 q.bat.base, .int .i64 q.bat.span, .int .i64 q.bat.prod, .int .i64 q.bat.epoch, .int .i64 q.bat.seq, .slice ro rn rc, .int .i64 q.fop, .string q.fnm, .string q.fvl, .slice ko ks.len kc, .string q.group, .int .i64 q.member, .int .i64 q.gen, .slice to tn tc] 50))
 have SM := Lib.hid (small_walk _ q.bat _ _ (hr.old f1))
 have F1 := Lib.hid f1
 have KW := Lib.hid hk
 unfold batV at SM
 unfold reqC
 clear f1 hr hk
 have dx := cell_of X1.out
 go_enter Tryz.func17, Tryz.ntmps17
 go_wp2_with fail
 generalize (w.alloc (.cells #[.int .i64 q.kind, .string q.name, .int .i64 q.index, .int .i64 q.count, .int .i64 q.from', .bool q.flag, .int .i64 q.bat.base, .int .i64 q.bat.span, .int .i64 q.bat.prod, .int .i64 q.bat.epoch, .int .i64 q.bat.seq, .slice ro rn rc, .int .i64 q.fop, .string q.fnm, .string q.fvl, .slice ko ks.len kc, .string q.group, .int .i64 q.member, .int .i64 q.gen, .slice to tn tc] 50)) = w1 at *
 refine SM.out.mono ?_
 rintro e w2 ⟨c, rfl, -, f2⟩
 have F2 := Lib.hid (F1.out.tr f2)
 have X2 := Lib.hid (blk X1.out f2 fun h => h)
 clear f2 SM dx X1 F1
 cases c with
 | false =>
  go_wp2_with fail
  go_ret
  exact ⟨⟨_, rfl⟩, F2.out⟩
 | true =>
  have RS := Lib.hid (rsize_top q.fop q.fnm q.fvl _ ks (KW.out.old F2.out) fun i hi => Nat.lt_of_lt_of_le (ho i hi) F2.out.size)
  unfold exV at RS
  have dx := cell_of X2.out
  go_wp2_with fail
  refine RS.out.mono ?_
  rintro e w3 ⟨rfl, f3⟩
  have F3 := Lib.hid (F2.out.tr f3)
  have X3 := Lib.hid (blk X2.out f3 fun h => h)
  have RD := Lib.hid (rdepth_top q.fop q.fnm q.fvl _ ks (KW.out.old F3.out) fun i hi => Nat.lt_of_lt_of_le (ho i hi) F3.out.size)
  unfold exV at RD
  clear f3 RS dx X2
  have dx := cell_of X3.out
  by_cases h40 : ((sizeK ks 1 100 100 : Nat) : Int) ≤ 40
  ·go_wp2_with fail
   refine RD.out.mono ?_
   rintro e w4 ⟨rfl, f4⟩
   have F4 := Lib.hid (F3.out.tr f4)
   have X4 := Lib.hid (blk X3.out f4 fun h => h)
   clear f4 RD dx X3
   have dx := cell_of X4.out
   go_wp2_with fail
   all_goals
    go_ret
    exact ⟨⟨_, rfl⟩, F4.out⟩
  ·have h41 : 40 < ((sizeK ks 1 100 100 : Nat) : Int) := by omega
   go_wp2_with fail
   go_ret
   exact ⟨⟨_, rfl⟩, F3.out⟩
theorem req_one (q : Req) {rv kv tv : Value} (h1 : rv.oneCell' = true) (h2 : kv.oneCell' = true) (h3 : tv.oneCell' = true) : (#[.int .i64 q.kind, .string q.name, .int .i64 q.index, .int .i64 q.count, .int .i64 q.from', .bool q.flag, .int .i64 q.bat.base, .int .i64 q.bat.span, .int .i64 q.bat.prod, .int .i64 q.bat.epoch, .int .i64 q.bat.seq, rv, .int .i64 q.fop, .string q.fnm, .string q.fvl, kv, .string q.group, .int .i64 q.member, .int .i64 q.gen, tv] : Array Value).all (·.oneCell') = true := by
 rw [Array.all_eq_true_iff_forall_mem]
 intro v hv
 simp only [List.mem_toArray, List.mem_cons, List.not_mem_nil, or_false] at hv
 rcases hv with rfl | rfl | rfl | rfl | rfl | rfl | rfl | rfl | rfl | rfl | rfl | rfl | rfl | rfl | rfl | rfl | rfl | rfl | rfl | rfl <;> first | rfl | exact h1 | exact h2 | exact h3
set_option maxHeartbeats 32000000 in
theorem ask_walk (q : Req) (ro : Option Addr) (rn rc : Nat) (ko : Option Addr) (kn kc : Nat) (to : Option Addr) (tn tc : Nat) :
  Calls Tryz.prog 18 #[.agg (reqC q (.slice ro rn rc) (.slice ko kn kc) (.slice to tn tc))] w fun e w' => e = .returned (.agg (reqC q (.slice ro rn rc) (.slice ko kn kc) (.slice to tn tc))) ∧ Fr (fun _ => False) w w' := by
 have f1 := (Fr.same w).alloc (.cells #[.int .i64 q.kind, .string q.name, .int .i64 q.index, .int .i64 q.count, .int .i64 q.from', .bool q.flag, .int .i64 q.bat.base, .int .i64 q.bat.span, .int .i64 q.bat.prod, .int .i64 q.bat.epoch, .int .i64 q.bat.seq, .slice ro rn rc, .int .i64 q.fop, .string q.fnm, .string q.fvl, .slice ko kn kc, .string q.group, .int .i64 q.member, .int .i64 q.gen, .slice to tn tc] 50)
 have f2 := f1.alloc (.cells #[.int .i64 0, .string ⟨#[]⟩, .int .i64 0, .int .i64 0, .int .i64 0, .bool false, .int .i64 0, .int .i64 0, .int .i64 0, .int .i64 0, .int .i64 0, .slice none 0 0, .int .i64 0, .string ⟨#[]⟩, .string ⟨#[]⟩, .slice none 0 0, .string ⟨#[]⟩, .int .i64 0, .int .i64 0, .slice none 0 0] 41)
 have s1 : (w.alloc (.cells #[.int .i64 q.kind, .string q.name, .int .i64 q.index, .int .i64 q.count, .int .i64 q.from', .bool q.flag, .int .i64 q.bat.base, .int .i64 q.bat.span, .int .i64 q.bat.prod, .int .i64 q.bat.epoch, .int .i64 q.bat.seq, .slice ro rn rc, .int .i64 q.fop, .string q.fnm, .string q.fvl, .slice ko kn kc, .string q.group, .int .i64 q.member, .int .i64 q.gen, .slice to tn tc] 50)).heap.size = w.heap.size + 1 := by simp
 have x2 := (heap_alloc_lt (.cells #[.int .i64 0, .string ⟨#[]⟩, .int .i64 0, .int .i64 0, .int .i64 0, .bool false, .int .i64 0, .int .i64 0, .int .i64 0, .int .i64 0, .int .i64 0, .slice none 0 0, .int .i64 0, .string ⟨#[]⟩, .string ⟨#[]⟩, .slice none 0 0, .string ⟨#[]⟩, .int .i64 0, .int .i64 0, .slice none 0 0] 41) (lt_of_heap (heap_alloc_self w (.cells #[.int .i64 q.kind, .string q.name, .int .i64 q.index, .int .i64 q.count, .int .i64 q.from', .bool q.flag, .int .i64 q.bat.base, .int .i64 q.bat.span, .int .i64 q.bat.prod, .int .i64 q.bat.epoch, .int .i64 q.bat.seq, .slice ro rn rc, .int .i64 q.fop, .string q.fnm, .string q.fvl, .slice ko kn kc, .string q.group, .int .i64 q.member, .int .i64 q.gen, .slice to tn tc] 50)))).trans (heap_alloc_self w (.cells #[.int .i64 q.kind, .string q.name, .int .i64 q.index, .int .i64 q.count, .int .i64 q.from', .bool q.flag, .int .i64 q.bat.base, .int .i64 q.bat.span, .int .i64 q.bat.prod, .int .i64 q.bat.epoch, .int .i64 q.bat.seq, .slice ro rn rc, .int .i64 q.fop, .string q.fnm, .string q.fvl, .slice ko kn kc, .string q.group, .int .i64 q.member, .int .i64 q.gen, .slice to tn tc] 50))
 have y2 := heap_alloc_self (w.alloc (.cells #[.int .i64 q.kind, .string q.name, .int .i64 q.index, .int .i64 q.count, .int .i64 q.from', .bool q.flag, .int .i64 q.bat.base, .int .i64 q.bat.span, .int .i64 q.bat.prod, .int .i64 q.bat.epoch, .int .i64 q.bat.seq, .slice ro rn rc, .int .i64 q.fop, .string q.fnm, .string q.fvl, .slice ko kn kc, .string q.group, .int .i64 q.member, .int .i64 q.gen, .slice to tn tc] 50)) (.cells #[.int .i64 0, .string ⟨#[]⟩, .int .i64 0, .int .i64 0, .int .i64 0, .bool false, .int .i64 0, .int .i64 0, .int .i64 0, .int .i64 0, .int .i64 0, .slice none 0 0, .int .i64 0, .string ⟨#[]⟩, .string ⟨#[]⟩, .slice none 0 0, .string ⟨#[]⟩, .int .i64 0, .int .i64 0, .slice none 0 0] 41)
 rw [s1] at y2
 have R2 := Lib.hid (setRow_heap _ (w.heap.size + 1) _ #[.int .i64 q.kind, .string q.name, .int .i64 q.index, .int .i64 q.count, .int .i64 q.from', .bool q.flag, .int .i64 q.bat.base, .int .i64 q.bat.span, .int .i64 q.bat.prod, .int .i64 q.bat.epoch, .int .i64 q.bat.seq, .slice ro rn rc, .int .i64 q.fop, .string q.fnm, .string q.fvl, .slice ko kn kc, .string q.group, .int .i64 q.member, .int .i64 q.gen, .slice to tn tc] 41 (0, 0) y2)
 have F2 := Lib.hid (frRow f2 (g := w.heap.size + 1) (.inr (Nat.le_succ _)) #[.int .i64 q.kind, .string q.name, .int .i64 q.index, .int .i64 q.count, .int .i64 q.from', .bool q.flag, .int .i64 q.bat.base, .int .i64 q.bat.span, .int .i64 q.bat.prod, .int .i64 q.bat.epoch, .int .i64 q.bat.seq, .slice ro rn rc, .int .i64 q.fop, .string q.fnm, .string q.fvl, .slice ko kn kc, .string q.group, .int .i64 q.member, .int .i64 q.gen, .slice to tn tc])
 have HX := Lib.hid x2
 have dx := cell_of x2
 unfold reqC
 clear f1 f2 s1 x2
 go_enter Tryz.func18, Tryz.ntmps18
 go_wp2_with (refine wpList_store_row rfl 41 _ _ rfl (w.heap.size + 1) #[.int .i64 q.kind, .string q.name, .int .i64 q.index, .int .i64 q.count, .int .i64 q.from', .bool q.flag, .int .i64 q.bat.base, .int .i64 q.bat.span, .int .i64 q.bat.prod, .int .i64 q.bat.epoch, .int .i64 q.bat.seq, .slice ro rn rc, .int .i64 q.fop, .string q.fnm, .string q.fvl, .slice ko kn kc, .string q.group, .int .i64 q.member, .int .i64 q.gen, .slice to tn tc] rfl rfl 41 _ y2 (by kernel_rfl) rfl (req_one q rfl rfl rfl) ?_)
 try simp only [Exit.inBlock, Exit.then]
 refine bodyPost_ret (results_cell_row rfl _ _ (w.heap.size + 1) 41 _ (0, 0) _ rfl R2.out Tryz.underlying41 rfl (by kernel_rfl)) rfl ?_
 exact ⟨rfl, F2.out⟩
end
end Go.Proofs.YtfdhofabgdkkkaaGreatDoor
/- Replies compared: that a machine that is none has refused. -/
namespace Go.Proofs.YtfdhofabgdkkkaaGreatDoor
open Go.RowKit Go.Fm Go.BigFrame Go.Shelf Go.Maps
set_option linter.unusedVariables false
set_option linter.unusedSimpArgs false
set_option maxRecDepth 100000
section
variable {w w' : World} {S : Nat → Prop}
set_option maxHeartbeats 32000000 in
theorem reply_walk (e0 : Int) : Calls Tryz.prog 26 #[tellV e0 0] w fun e w' => e = .returned (tellV e0 0) ∧ Fr (fun _ => False) w w' := by
 have f1 := (Fr.same w).alloc (.cells (repA e0 0 0 0 0 0 0 (.slice none 0 0) (.slice none 0 0) (.slice none 0 0)) 31)
 have f2 := f1.alloc (.cells #[.int .i64 0, .int .i64 0, .int .i64 0, .int .i64 0, .int .i64 0, .int .i64 0, .int .i64 0, .slice none 0 0, .slice none 0 0, .slice none 0 0] 71)
 have s1 : (w.alloc (.cells (repA e0 0 0 0 0 0 0 (.slice none 0 0) (.slice none 0 0) (.slice none 0 0)) 31)).heap.size = w.heap.size + 1 := by simp
 have y2 := heap_alloc_self (w.alloc (.cells (repA e0 0 0 0 0 0 0 (.slice none 0 0) (.slice none 0 0) (.slice none 0 0)) 31)) (.cells #[.int .i64 0, .int .i64 0, .int .i64 0, .int .i64 0, .int .i64 0, .int .i64 0, .int .i64 0, .slice none 0 0, .slice none 0 0, .slice none 0 0] 71)
 rw [s1] at y2
 have R2 := Lib.hid (setRow_heap _ (w.heap.size + 1) _ (repA e0 0 0 0 0 0 0 (.slice none 0 0) (.slice none 0 0) (.slice none 0 0)) 71 (0, 0) y2)
 have F2 := Lib.hid (frRow f2 (g := w.heap.size + 1) (.inr (Nat.le_succ _)) (repA e0 0 0 0 0 0 0 (.slice none 0 0) (.slice none 0 0) (.slice none 0 0)))
 clear f1 f2 s1
 unfold tellV
 unfold repA at *
 go_enter Tryz.func26, Tryz.ntmps26
 go_wp2_with (refine wpList_store_row rfl 71 _ _ rfl (w.heap.size + 1) (repA e0 0 0 0 0 0 0 (.slice none 0 0) (.slice none 0 0) (.slice none 0 0)) rfl rfl 71 _ y2 (by kernel_rfl) rfl (repA_one _ _ _ _ _ _ _ rfl rfl rfl) ?_)
 try simp only [Exit.inBlock, Exit.then]
 refine bodyPost_ret (results_cell_row rfl _ _ (w.heap.size + 1) 71 _ (0, 0) _ rfl R2.out Tryz.underlying71 rfl (by kernel_rfl)) rfl ?_
 exact ⟨rfl, F2.out⟩
theorem same53 : Calls Tryz.prog 53 #[.slice none 0 0, .slice none 0 0] w fun e w' => e = .returned (.bool true) ∧ w' = w := by
 go_enter Tryz.func53, Tryz.ntmps53
 go_wp2_with fail
 refine wp_loop_rounds 1 ?_
 rw [rounds_succ]
 go_wp2_with fail
 go_ret
 exact ⟨rfl, rfl⟩
theorem same54 : Calls Tryz.prog 54 #[.slice none 0 0, .slice none 0 0] w fun e w' => e = .returned (.bool true) ∧ w' = w := by
 go_enter Tryz.func54, Tryz.ntmps54
 go_wp2_with fail
 refine wp_loop_rounds 1 ?_
 rw [rounds_succ]
 go_wp2_with fail
 go_ret
 exact ⟨rfl, rfl⟩
theorem same55 : Calls Tryz.prog 55 #[.slice none 0 0, .slice none 0 0] w fun e w' => e = .returned (.bool true) ∧ w' = w := by
 go_enter Tryz.func55, Tryz.ntmps55
 go_wp2_with fail
 refine wp_loop_rounds 1 ?_
 rw [rounds_succ]
 go_wp2_with fail
 go_ret
 exact ⟨rfl, rfl⟩
set_option maxHeartbeats 32000000 in
theorem same_reply (e0 : Int) : Calls Tryz.prog 25 #[tellV e0 0, tellV e0 0] w fun e w' => e = .returned (.bool true) ∧ Fr (fun _ => False) w w' := by
 unfold tellV
 have f2 := Lib.hid (((Fr.same w).alloc (.cells #[.int .i64 e0, .int .i64 0, .int .i64 0, .int .i64 0, .int .i64 0, .int .i64 0, .int .i64 0, .slice none 0 0, .slice none 0 0, .slice none 0 0] 71)).alloc (.cells #[.int .i64 e0, .int .i64 0, .int .i64 0, .int .i64 0, .int .i64 0, .int .i64 0, .int .i64 0, .slice none 0 0, .slice none 0 0, .slice none 0 0] 71))
 go_enter Tryz.func25, Tryz.ntmps25
 go_wp2_with fail
 refine same53.mono ?_
 rintro e w' ⟨rfl, rfl⟩
 go_wp2_with fail
 refine same54.mono ?_
 rintro e w' ⟨rfl, rfl⟩
 go_wp2_with fail
 refine same55.mono ?_
 rintro e w' ⟨rfl, rfl⟩
 go_wp2_with fail
 go_ret
 exact ⟨rfl, f2.out⟩
end
end Go.Proofs.YtfdhofabgdkkkaaGreatDoor
